/- Several texts in one: YardB YardC. Each says ahead of it what it shows. -/
import Derived.Test.YtegdhojhnmgjgaaGreatB9
import Derived.Test.YtegdhojhnmgjgaaGreatB2
import Derived.Test.YtegdhojhnmgjgaaGreatB8
set_option linter.unusedVariables false
set_option linter.unusedSimpArgs false
/- Threads that share cells (package yard): how a yard lies in memory; who is there, who is busy, the time, the layout. Conditions: a Right layout, a row for each thread. -/
namespace Go.Proofs.YtegdhojhnmgjgaaGreat
open Go.RowKit Go.SepYtegdhojhnmgjgaaGreat
set_option maxRecDepth 100000
set_option maxHeartbeats 1000000
def ints (l : List Int) : List Value := l.map (Value.int .i64)
abbrev YardM.v (y : YardM) (bm gt gm : Nat) (dv : Value) : List Value := [.int .i64 y.conf.th, .int .i64 y.conf.sl, .int .i64 y.conf.src, .int .i64 y.conf.dl, .pointer (some ⟨bm, 0, none⟩), .slice (some ⟨gt, 0, none⟩) y.tasks.length y.tasks.length, dv, .slice (some ⟨gm, 0, none⟩) y.mine.length y.mine.length, .int .i64 y.moves, .int .i64 y.now]
abbrev yardP (b bm gt gm : Nat) (dv : Value) (y : YardM) : SA := pt b (.cells (y.v bm gt gm dv).toArray 95 (0, 0))
abbrev ptrsA (g : Nat) (vs : List Value) : SA := pt g (.cells vs.toArray 59 (0, 0))
abbrev mineA (g : Nat) (l : List Int) : SA := pt g (.cells (ints l).toArray 3 (0, 0))
abbrev deedsA (p : Option Addr) (n c : Nat) (l : List DeedM) : SA := rowA (.slice p n c) 51 11 l.length (l.flatMap DeedM.v)
def yardA (b : Nat) (y : YardM) : SA := fun h => ∃ (bm gt gm : Nat) (p : Option Addr) (n c : Nat) (vs : List Value), bag [yardP b bm gt gm (.slice p n c) y, memA bm y.mem, ptrsA gt vs, tasksA vs y.tasks, deedsA p n c y.deeds, mineA gm y.mine] h
structure YardM.ok (y : YardM) : Prop where
  conf : y.conf.ok
  tl : (y.tasks.length : Int) = y.conf.th
  ml : (y.mine.length : Int) = y.conf.th
  dl : y.deeds.length ≤ 100000
  m0 : 0 ≤ y.moves
  m1 : y.moves ≤ 1000000
  n0 : 0 ≤ y.now
  n1 : y.now ≤ MaxTime
  log : y.mem.log.length ≤ 1000000
  cells : (y.mem.cells.length : Int) = y.conf.cells
  task : ∀ (i : Nat) t, y.tasks[i]? = some (some t) → t.okn y.conf i 1000000
  mine : ∀ (i : Nat) t, y.tasks[i]? = some (some t) → 0 ≤ getI y.mine i ∧ getI y.mine i < y.deeds.length
section
variable {E w : World} {L : List SA}
theorem yardA_open {b : Nat} {y : YardM} (h : sat E w (yardA b y :: L)) : ∃ (bm gt gm : Nat) (p : Option Addr) (n c : Nat) (vs : List Value), sat E w (yardP b bm gt gm (.slice p n c) y :: memA bm y.mem :: ptrsA gt vs :: tasksA vs y.tasks :: deedsA p n c y.deeds :: mineA gm y.mine :: L) := by
  obtain ⟨bm, h⟩ := h.ex
  obtain ⟨gt, h⟩ := h.ex
  obtain ⟨gm, h⟩ := h.ex
  obtain ⟨p, h⟩ := h.ex
  obtain ⟨n, h⟩ := h.ex
  obtain ⟨c, h⟩ := h.ex
  obtain ⟨vs, h⟩ := h.ex
  exact ⟨bm, gt, gm, p, n, c, vs, h.unbag⟩
theorem yardA_shut {b : Nat} {y : YardM} {bm gt gm : Nat} {p : Option Addr} {n c : Nat} {vs : List Value} (h : sat E w (yardP b bm gt gm (.slice p n c) y :: memA bm y.mem :: ptrsA gt vs :: tasksA vs y.tasks :: deedsA p n c y.deeds :: mineA gm y.mine :: L)) : sat E w (yardA b y :: L) :=
  sat.mkex bm (sat.mkex gt (sat.mkex gm (sat.mkex p (sat.mkex n (sat.mkex c (sat.mkex vs (sat.bag (M := [_, _, _, _, _, _]) h)))))))
theorem ythere_nil (who : Int) (w : World) : Calls Tryz.prog 49 #[.pointer none, .int .i64 who] w fun e w' => e = .returned (.bool false) ∧ w = w' := by
  go_enter Tryz.func49, Tryz.ntmps49
  go_wp2
  go_ret
  exact ⟨rfl, rfl⟩
theorem ythere_calls (b : Nat) (y : YardM) (who : Int) (h : sat E w (yardA b y :: L)) : Calls Tryz.prog 49 #[.pointer (some ⟨b, 0, none⟩), .int .i64 who] w fun e w' => e = .returned (.bool (y.there who)) ∧ w = w' := by
  obtain ⟨bm, gt, gm, p, n, c, vs, h⟩ := yardA_open h
  have a0 := h.rd 0 rfl
  clear h
  unfold YardM.there
  by_cases h0 : 0 ≤ who
  · have c0 : decide (who ≥ 0) = true := by simpa using h0
    go_enter Tryz.func49, Tryz.ntmps49
    go_wp2
    go_ret
    exact ⟨ret_b (by simp [h0]), rfl⟩
  · have c0 : decide (who ≥ 0) = false := by simpa using h0
    go_enter Tryz.func49, Tryz.ntmps49
    go_wp2
    go_ret
    exact ⟨ret_b (by simp [h0]), rfl⟩
theorem taskO_bool {v : Value} {t : Option TaskM} (h : sat E w (taskO v t :: L)) : ∃ q : Option Addr, v = .pointer q ∧ (q.isSome = t.isSome) := by
  cases t with
  | none => exact ⟨none, (taskO_none h).1, rfl⟩
  | some t =>
    obtain ⟨b, e, _⟩ := taskO_some h
    exact ⟨_, e, rfl⟩
theorem task_at {y : YardM} (ho : y.ok) {who : Int} (h : y.there who = true) : who.toNat < y.tasks.length ∧ y.tasks[who.toNat]? = some (y.task who) := by
  have h' : (decide (0 ≤ who) && decide (who < y.conf.th)) = true := h
  rw [Bool.and_eq_true, decide_eq_true_eq, decide_eq_true_eq] at h'
  have h1 : who.toNat < y.tasks.length := by have := ho.tl; omega
  refine ⟨h1, ?_⟩
  unfold YardM.task
  rw [List.getElem?_eq_getElem h1]
  rfl
theorem ybusy_nil (who : Int) (w : World) : Calls Tryz.prog 24 #[.pointer none, .int .i64 who] w fun e w' => e = .returned (.bool false) ∧ w = w' := by
  go_enter Tryz.func24, Tryz.ntmps24
  go_wp2_with (first | (go_at_call 49; (with_reducible refine (ythere_nil who _).mono ?_); rintro e w1 ⟨rfl, rfl⟩))
  go_ret
  exact ⟨rfl, rfl⟩
theorem ybusy_calls (b : Nat) (y : YardM) (ho : y.ok) (who : Int) (h : sat E w (yardA b y :: L)) : Calls Tryz.prog 24 #[.pointer (some ⟨b, 0, none⟩), .int .i64 who] w fun e w' => e = .returned (.bool (y.busy who)) ∧ w = w' := by
  have TH := Lib.hid (ythere_calls b y who h)
  obtain ⟨bm, gt, gm, p, n, c, vs, h⟩ := yardA_open h
  have a0 := h.rd 0 rfl
  have a2 := h.rd 2 rfl
  unfold YardM.busy
  cases ht : y.there who with
  | false =>
    rw [ht] at TH
    clear h
    go_enter Tryz.func24, Tryz.ntmps24
    go_wp2_with (first | (go_at_call 49; (with_reducible refine TH.out.mono ?_); rintro e w1 ⟨rfl, rfl⟩))
    go_ret
    exact ⟨rfl, rfl⟩
  | true =>
    rw [ht] at TH
    obtain ⟨h1, h2⟩ := task_at ho ht
    obtain ⟨v, hv, hs⟩ := tasks_pick who.toNat h1 (h.pick 3 rfl)
    rw [List.getElem?_eq_getElem h1] at h2
    rw [Option.some.inj h2] at hs
    obtain ⟨q, rfl, hq⟩ := taskO_bool hs
    have x0 : w.cell? ⟨gt, who.toNat, none⟩ = some (.pointer q) := by rw [a2, hv]
    have t0 : 0 ≤ who := by unfold YardM.there at ht; rw [Bool.and_eq_true, decide_eq_true_eq] at ht; exact ht.1
    have t1 : who < (y.tasks.length : Int) := by omega
    rw [← hq]
    clear h hs a2 hv
    cases q with
    | none =>
      go_enter Tryz.func24, Tryz.ntmps24
      go_wp2_with (first | (go_at_call 49; (with_reducible refine TH.out.mono ?_); rintro e w1 ⟨rfl, rfl⟩))
      go_ret
      exact ⟨rfl, rfl⟩
    | some q =>
      go_enter Tryz.func24, Tryz.ntmps24
      go_wp2_with (first | (go_at_call 49; (with_reducible refine TH.out.mono ?_); rintro e w1 ⟨rfl, rfl⟩))
      go_ret
      exact ⟨rfl, rfl⟩
attribute [local go_sem] min2_w max2_w min_w max_w
theorem ypass_nil (n : Int) (h : sat E w L) : Calls Tryz.prog 22 #[.pointer none, .int .i64 n] w fun e w' => e = .returned (.tuple #[]) ∧ sat E w' L := by
  go_enter Tryz.func22, Tryz.ntmps22
  go_wp2
  (first | go_end0 | ((try simp only [Exit.inBlock, Exit.then]); refine bodyPost_ret (results_none rfl _ _ _) rfl ?_))
  exact ⟨rfl, h⟩
theorem ypass_calls (b : Nat) (y : YardM) (n0 : 0 ≤ y.now) (n1 : y.now ≤ MaxTime) (n : Int) (h : sat E w (yardA b y :: L)) : Calls Tryz.prog 22 #[.pointer (some ⟨b, 0, none⟩), .int .i64 n] w fun e w' => e = .returned (.tuple #[]) ∧ sat E w' (yardA b (y.pass n) :: L) := by
  obtain ⟨bm, gt, gm, p, k, c, vs, h⟩ := yardA_open h
  have K := Lib.hid h
  clear h
  have a0 := K.out.rd 0 rfl; have l0 := K.out.ltp 0 rfl
  unfold YardM.pass
  by_cases hn : n > 0
  · rw [if_pos hn]
    have c0 : decide (n > 0) = true := by simpa using hn
    have hm : y.now ≤ 1099511627776 := n1
    have v1 : IntKind.i64.wrap (1099511627776 - y.now) = 1099511627776 - y.now := wi (by omega) (by omega)
    have v2 : IntKind.i64.wrap (y.now + min n (1099511627776 - y.now)) = y.now + min n (1099511627776 - y.now) := wi (by omega) (by omega)
    have w1' : wrap64 (1099511627776 - y.now) = 1099511627776 - y.now := w64 (by omega) (by omega)
    have w2' : wrap64 (y.now + min n (1099511627776 - y.now)) = y.now + min n (1099511627776 - y.now) := w64 (by omega) (by omega)
    clear hn n0 n1
    go_enter Tryz.func22, Tryz.ntmps22
    go_wp2_with fail
    refine wp_region_noPanic ?_
    refine wp_region_held_drew (S := (fun w' => True)) (by kernel_rfl) ?_ (fun hHeld => ?_)
    · ((try dsimp only); (first | done | trivial))
    refine tk 0 (some 10) ?_
    (try simp only [Act.put, p0, p1, p2])
    refine tk 1 (some 11) ?_
    (try simp only [Act.put, p0, p1, p2])
    refine tk 2 (some 12) ?_
    (try simp only [Act.put, p0, p1, p2])
    refine tk 4 (some 14) ?_
    (try simp only [Act.put, p0, p1, p2])
    refine tk 5 (some 15) ?_
    (try simp only [Act.put, p0, p1, p2])
    refine tk 6 (some 16) ?_
    (try simp only [Act.put, p0, p1, p2])
    refine tk 7 (some 17) ?_
    (try simp only [Act.put, p0, p1, p2])
    refine wpAnyH_ready (rs := [3, 8]) (by kernel_rfl) (by simp) ?_
    refine AllReadyH.cons (o := _) rfl (fun kC hkC => ?_) ?_
    go_simp
    refine shown hkC _ _ (by (try dsimp only); (first | done | trivial)) ?_; clear hkC kC hHeld; intro hHeld
    (try simp only [Act.put, p0, p1, p2])
    refine wpAnyH_ready (rs := [8]) (by kernel_rfl) (by simp) ?_
    refine AllReadyH.cons (o := _) rfl (fun kC hkC => ?_) AllReadyH.nil
    go_simp
    refine shown hkC _ _ (by (try dsimp only); (first | done | trivial)) ?_; clear hkC kC hHeld; intro hHeld
    (try simp only [Act.put, p0, p1, p2])
    refine tk 9 (some 19) ?_
    (try simp only [Act.put, p0, p1, p2])
    refine tk 10 (some 20) ?_
    (try simp only [Act.put, p0, p1, p2])
    refine tk 11 (some 21) ?_
    (try simp only [Act.put, p0, p1, p2])
    refine tk 12 (some 22) ?_
    (try simp only [Act.put, p0, p1, p2])
    refine tk 13 (some 23) ?_
    (try simp only [Act.put, p0, p1, p2])
    refine wpAnyH_ready (rs := [14]) (by kernel_rfl) (by simp) ?_
    refine AllReadyH.cons (o := _) rfl (fun kC hkC => ?_) AllReadyH.nil
    (first | (refine rg_store (E := E) (d := none) 0 (by kernel_rfl) rfl rfl (by first | exact K.out | exact K.out.drew) rfl rfl rfl rfl ?_ ?_ ?_ ?_; (· kernel_rfl); (· simp); (· simp [Value.oneCell']); intro w1 K1; simp only [List.set, putL] at K1; have K2 := Lib.hid K1; clear K1 K; (try clear a0); (try clear l0); (try clear f0); (try clear a1); (try clear l1); (try clear f1); (try clear a2); (try clear l2); (try clear f2); (try clear a3); (try clear l3); (try clear f3); (try clear a4); (try clear l4); (try clear f4); (try clear a5); (try clear l5); (try clear f5); have K := K2; clear K2; (try have a0 := K.out.rd 0 rfl); (try have l0 := K.out.ltp 0 rfl); (try have f0 := K.out.fr 0 rfl); (try have a1 := K.out.rd 1 rfl); (try have l1 := K.out.ltp 1 rfl); (try have f1 := K.out.fr 1 rfl); (try have a2 := K.out.rd 2 rfl); (try have l2 := K.out.ltp 2 rfl); (try have f2 := K.out.fr 2 rfl); (try have a3 := K.out.rd 3 rfl); (try have l3 := K.out.ltp 3 rfl); (try have f3 := K.out.fr 3 rfl)) | (refine rg_store (E := E) (d := none) 1 (by kernel_rfl) rfl rfl (by first | exact K.out | exact K.out.drew) rfl rfl rfl rfl ?_ ?_ ?_ ?_; (· kernel_rfl); (· simp); (· simp [Value.oneCell']); intro w1 K1; simp only [List.set, putL] at K1; have K2 := Lib.hid K1; clear K1 K; (try clear a0); (try clear l0); (try clear f0); (try clear a1); (try clear l1); (try clear f1); (try clear a2); (try clear l2); (try clear f2); (try clear a3); (try clear l3); (try clear f3); (try clear a4); (try clear l4); (try clear f4); (try clear a5); (try clear l5); (try clear f5); have K := K2; clear K2; (try have a0 := K.out.rd 0 rfl); (try have l0 := K.out.ltp 0 rfl); (try have f0 := K.out.fr 0 rfl); (try have a1 := K.out.rd 1 rfl); (try have l1 := K.out.ltp 1 rfl); (try have f1 := K.out.fr 1 rfl); (try have a2 := K.out.rd 2 rfl); (try have l2 := K.out.ltp 2 rfl); (try have f2 := K.out.fr 2 rfl); (try have a3 := K.out.rd 3 rfl); (try have l3 := K.out.ltp 3 rfl); (try have f3 := K.out.fr 3 rfl)) | (refine rg_store (E := E) (d := none) 2 (by kernel_rfl) rfl rfl (by first | exact K.out | exact K.out.drew) rfl rfl rfl rfl ?_ ?_ ?_ ?_; (· kernel_rfl); (· simp); (· simp [Value.oneCell']); intro w1 K1; simp only [List.set, putL] at K1; have K2 := Lib.hid K1; clear K1 K; (try clear a0); (try clear l0); (try clear f0); (try clear a1); (try clear l1); (try clear f1); (try clear a2); (try clear l2); (try clear f2); (try clear a3); (try clear l3); (try clear f3); (try clear a4); (try clear l4); (try clear f4); (try clear a5); (try clear l5); (try clear f5); have K := K2; clear K2; (try have a0 := K.out.rd 0 rfl); (try have l0 := K.out.ltp 0 rfl); (try have f0 := K.out.fr 0 rfl); (try have a1 := K.out.rd 1 rfl); (try have l1 := K.out.ltp 1 rfl); (try have f1 := K.out.fr 1 rfl); (try have a2 := K.out.rd 2 rfl); (try have l2 := K.out.ltp 2 rfl); (try have f2 := K.out.fr 2 rfl); (try have a3 := K.out.rd 3 rfl); (try have l3 := K.out.ltp 3 rfl); (try have f3 := K.out.fr 3 rfl)))
    refine shown hkC _ _ (by (try dsimp only); (first | done | trivial)) ?_; clear hkC kC hHeld; intro hHeld
    (try simp only [Act.put, p0, p1, p2])
    refine wpAnyH_done (by kernel_rfl) (NoPanic.normal ?_) _
    rotate_left
    refine AllReadyH.cons (o := _) rfl (fun kC hkC => ?_) ?_
    go_simp
    refine shown hkC _ _ (by (try dsimp only); (first | done | trivial)) ?_; clear hkC kC hHeld; intro hHeld
    (try simp only [Act.put, p0, p1, p2])
    refine tk 9 (some 19) ?_
    (try simp only [Act.put, p0, p1, p2])
    refine tk 10 (some 20) ?_
    (try simp only [Act.put, p0, p1, p2])
    refine wpAnyH_ready (rs := [3]) (by kernel_rfl) (by simp) ?_
    refine AllReadyH.cons (o := _) rfl (fun kC hkC => ?_) AllReadyH.nil
    go_simp
    refine shown hkC _ _ (by (try dsimp only); (first | done | trivial)) ?_; clear hkC kC hHeld; intro hHeld
    (try simp only [Act.put, p0, p1, p2])
    refine tk 11 (some 21) ?_
    (try simp only [Act.put, p0, p1, p2])
    refine tk 12 (some 22) ?_
    (try simp only [Act.put, p0, p1, p2])
    refine tk 13 (some 23) ?_
    (try simp only [Act.put, p0, p1, p2])
    refine wpAnyH_ready (rs := [14]) (by kernel_rfl) (by simp) ?_
    refine AllReadyH.cons (o := _) rfl (fun kC hkC => ?_) AllReadyH.nil
    (first | (refine rg_store (E := E) (d := none) 0 (by kernel_rfl) rfl rfl (by first | exact K.out | exact K.out.drew) rfl rfl rfl rfl ?_ ?_ ?_ ?_; (· kernel_rfl); (· simp); (· simp [Value.oneCell']); intro w1 K1; simp only [List.set, putL] at K1; have K2 := Lib.hid K1; clear K1 K; (try clear a0); (try clear l0); (try clear f0); (try clear a1); (try clear l1); (try clear f1); (try clear a2); (try clear l2); (try clear f2); (try clear a3); (try clear l3); (try clear f3); (try clear a4); (try clear l4); (try clear f4); (try clear a5); (try clear l5); (try clear f5); have K := K2; clear K2; (try have a0 := K.out.rd 0 rfl); (try have l0 := K.out.ltp 0 rfl); (try have f0 := K.out.fr 0 rfl); (try have a1 := K.out.rd 1 rfl); (try have l1 := K.out.ltp 1 rfl); (try have f1 := K.out.fr 1 rfl); (try have a2 := K.out.rd 2 rfl); (try have l2 := K.out.ltp 2 rfl); (try have f2 := K.out.fr 2 rfl); (try have a3 := K.out.rd 3 rfl); (try have l3 := K.out.ltp 3 rfl); (try have f3 := K.out.fr 3 rfl)) | (refine rg_store (E := E) (d := none) 1 (by kernel_rfl) rfl rfl (by first | exact K.out | exact K.out.drew) rfl rfl rfl rfl ?_ ?_ ?_ ?_; (· kernel_rfl); (· simp); (· simp [Value.oneCell']); intro w1 K1; simp only [List.set, putL] at K1; have K2 := Lib.hid K1; clear K1 K; (try clear a0); (try clear l0); (try clear f0); (try clear a1); (try clear l1); (try clear f1); (try clear a2); (try clear l2); (try clear f2); (try clear a3); (try clear l3); (try clear f3); (try clear a4); (try clear l4); (try clear f4); (try clear a5); (try clear l5); (try clear f5); have K := K2; clear K2; (try have a0 := K.out.rd 0 rfl); (try have l0 := K.out.ltp 0 rfl); (try have f0 := K.out.fr 0 rfl); (try have a1 := K.out.rd 1 rfl); (try have l1 := K.out.ltp 1 rfl); (try have f1 := K.out.fr 1 rfl); (try have a2 := K.out.rd 2 rfl); (try have l2 := K.out.ltp 2 rfl); (try have f2 := K.out.fr 2 rfl); (try have a3 := K.out.rd 3 rfl); (try have l3 := K.out.ltp 3 rfl); (try have f3 := K.out.fr 3 rfl)) | (refine rg_store (E := E) (d := none) 2 (by kernel_rfl) rfl rfl (by first | exact K.out | exact K.out.drew) rfl rfl rfl rfl ?_ ?_ ?_ ?_; (· kernel_rfl); (· simp); (· simp [Value.oneCell']); intro w1 K1; simp only [List.set, putL] at K1; have K2 := Lib.hid K1; clear K1 K; (try clear a0); (try clear l0); (try clear f0); (try clear a1); (try clear l1); (try clear f1); (try clear a2); (try clear l2); (try clear f2); (try clear a3); (try clear l3); (try clear f3); (try clear a4); (try clear l4); (try clear f4); (try clear a5); (try clear l5); (try clear f5); have K := K2; clear K2; (try have a0 := K.out.rd 0 rfl); (try have l0 := K.out.ltp 0 rfl); (try have f0 := K.out.fr 0 rfl); (try have a1 := K.out.rd 1 rfl); (try have l1 := K.out.ltp 1 rfl); (try have f1 := K.out.fr 1 rfl); (try have a2 := K.out.rd 2 rfl); (try have l2 := K.out.ltp 2 rfl); (try have f2 := K.out.fr 2 rfl); (try have a3 := K.out.rd 3 rfl); (try have l3 := K.out.ltp 3 rfl); (try have f3 := K.out.fr 3 rfl)))
    refine shown hkC _ _ (by (try dsimp only); (first | done | trivial)) ?_; clear hkC kC hHeld; intro hHeld
    (try simp only [Act.put, p0, p1, p2])
    refine wpAnyH_done (by kernel_rfl) (NoPanic.normal ?_) _
    rotate_left
    exact AllReadyH.nil
    all_goals
      go_wp2
      (first | go_end0 | ((try simp only [Exit.inBlock, Exit.then]); refine bodyPost_ret (results_none rfl _ _ _) rfl ?_))
      exact ⟨rfl, yardA_shut K.out⟩
  · rw [if_neg hn]
    have c0 : decide (n > 0) = false := by simpa using hn
    clear hn
    go_enter Tryz.func22, Tryz.ntmps22
    go_wp2
    (first | go_end0 | ((try simp only [Exit.inBlock, Exit.then]); refine bodyPost_ret (results_none rfl _ _ _) rfl ?_))
    exact ⟨rfl, yardA_shut K.out⟩
theorem ynow_nil (w : World) : Calls Tryz.prog 27 #[.pointer none] w fun e w' => e = .returned (.int .i64 0) ∧ w = w' := by
  go_enter Tryz.func27, Tryz.ntmps27
  go_wp2
  go_ret
  exact ⟨rfl, rfl⟩
theorem ynow_calls (b : Nat) (y : YardM) (h : sat E w (yardA b y :: L)) : Calls Tryz.prog 27 #[.pointer (some ⟨b, 0, none⟩)] w fun e w' => e = .returned (.int .i64 y.now) ∧ w = w' := by
  obtain ⟨bm, gt, gm, p, k, c, vs, h⟩ := yardA_open h
  have a0 := h.rd 0 rfl
  clear h
  go_enter Tryz.func27, Tryz.ntmps27
  go_wp2
  go_ret
  exact ⟨rfl, rfl⟩
end
end Go.Proofs.YtegdhojhnmgjgaaGreat
/- Threads that share cells (package yard): a new yard; a call begins. Conditions: as YardM.ok says. -/
namespace Go.Proofs.YtegdhojhnmgjgaaGreat
open Go.RowKit Go.SepYtegdhojhnmgjgaaGreat
set_option maxRecDepth 100000
set_option maxHeartbeats 4000000
theorem ptrInfo : ∃ q z, Tryz.prog.info? 59 = some q ∧ q.zero = some z ∧ q.size = 1 ∧ q.bytes = 8 ∧ z.cells = #[.pointer none] := ⟨_, _, rfl, rfl, rfl, rfl, rfl⟩
theorem intInfoY : ∃ q z, Tryz.prog.info? 3 = some q ∧ q.zero = some z ∧ q.size = 1 ∧ q.bytes = 8 ∧ z.cells = #[.int .i64 0] := ⟨_, _, rfl, rfl, rfl, rfl, rfl⟩
theorem deedInfoY : ∃ q z, Tryz.prog.info? 51 = some q ∧ q.zero = some z ∧ q.size = 11 ∧ q.bytes = 88 ∧ z.cells.size = 11 := ⟨_, _, rfl, rfl, rfl, rfl, rfl⟩
theorem ints_rep (n : Nat) : List.replicate n (Value.int .i64 0) = ints (List.replicate n 0) := by simp [ints]
theorem MemM.new_len (n : Nat) : (MemM.new n).cells.length = n := by simp [MemM.new]
theorem YardM.new_ok {c : ConfM} (hc : c.ok) : (YardM.new c).ok := by
  have h1 := hc.th1
  have hcl : 0 ≤ c.cells := by have := hc.all_bd; unfold ConfM.cells; omega
  refine ⟨hc, ?_, ?_, by simp [YardM.new], Int.le_refl _, by show (0 : Int) ≤ _; omega, Int.le_refl _, by show (0 : Int) ≤ 1099511627776; omega, by simp [YardM.new, MemM.new], ?_, ?_, ?_⟩
  · simp only [YardM.new, List.length_replicate]; omega
  · simp only [YardM.new, List.length_replicate]; omega
  · simp only [YardM.new, MemM.new_len]; omega
  · intro i t h; simp [YardM.new, List.getElem?_replicate] at h
  · intro i t h; simp [YardM.new, List.getElem?_replicate] at h
section
variable {E w : World} {L : List SA}
theorem ynew_bad (c : ConfM) (hc : c.right = false) (h : sat E w L) : Calls Tryz.prog 11 #[.agg #[.int .i64 c.th, .int .i64 c.sl, .int .i64 c.src, .int .i64 c.dl]] w fun e w' => e = .returned (.tuple #[.pointer none, .int .i64 1]) ∧ sat E w' L := by
  have K := Lib.hid h
  clear h
  have CR := fun w => Lib.hid (right_calls c w)
  rw [hc] at CR
  go_enter Tryz.func11, Tryz.ntmps11
  go_wp2_with (first | ((with_reducible refine at_box ?_); refine st_boxf K.out rfl rfl (fun _ => rfl) ?_; intro g1 w1 K1; have K2 := Lib.hid K1; clear K1 K; (try clear a0); (try clear l0); (try clear a1); (try clear l1); (try clear a2); (try clear l2); have K := K2; clear K2; have a0 := K.out.rd 0 rfl; have l0 := K.out.ltp 0 rfl) | (go_at_call 35; (with_reducible refine ((CR _).out).mono ?_); rintro e w1 ⟨rfl, hb⟩; have K1 := sat.grown (by repeat (with_reducible first | exact K.out | apply sat.alloc_any | apply sat.drew | apply sat.drewN)) hb; clear hb; have K2 := Lib.hid K1; clear K1 K; (try clear a0); (try clear l0); (try clear a1); (try clear l1); (try clear a2); (try clear l2); have K := K2; clear K2; have a0 := K.out.rd 0 rfl; have l0 := K.out.ltp 0 rfl))
  go_ret2
  exact ⟨rfl, K.out.drop⟩
theorem ynew_calls (c : ConfM) (hc : c.ok) (h : sat E w L) : Calls Tryz.prog 11 #[.agg #[.int .i64 c.th, .int .i64 c.sl, .int .i64 c.src, .int .i64 c.dl]] w fun e w' => ∃ g, e = .returned (.tuple #[.pointer (some ⟨g, 0, none⟩), .int .i64 0]) ∧ sat E w' (yardA g (YardM.new c) :: L) := by
  have K := Lib.hid h
  clear h
  have CR := fun w => Lib.hid (right_calls c w)
  rw [ConfM.right_ok.2 hc] at CR
  have CN := fun w => Lib.hid (cellsn_calls c w hc)
  have hcl : 0 ≤ c.cells ∧ c.cells ≤ 8320 := by have := hc.all_bd; have := hc.th2; have := hc.th1; unfold ConfM.cells; omega
  have MN := fun w (L : List SA) (h : sat E w L) => Lib.hid (memnew_calls c.cells.toNat (by omega) h)
  rw [show ((c.cells.toNat : Nat) : Int) = c.cells by omega] at MN
  have h1 := hc.th1
  have h2 := hc.th2
  have lz := Lib.hid (show c.th = (c.th.toNat : Int) by omega)
  have hn : c.th.toNat ≤ 64 := by omega
  clear hcl
  go_enter Tryz.func11, Tryz.ntmps11
  go_wp2_with (first | ((with_reducible refine at_box ?_); refine st_boxf K.out rfl rfl (fun _ => rfl) ?_; intro g1 w1 K1; have K2 := Lib.hid K1; clear K1 K; (try clear a0); (try clear l0); (try clear a1); (try clear l1); (try clear a2); (try clear l2); have K := K2; clear K2; have a0 := K.out.rd 0 rfl; have l0 := K.out.ltp 0 rfl) | (go_at_call 35; (with_reducible refine ((CR _).out).mono ?_); rintro e w1 ⟨rfl, hb⟩; have K1 := sat.grown (by repeat (with_reducible first | exact K.out | apply sat.alloc_any | apply sat.drew | apply sat.drewN)) hb; clear hb; have K2 := Lib.hid K1; clear K1 K; (try clear a0); (try clear l0); (try clear a1); (try clear l1); (try clear a2); (try clear l2); have K := K2; clear K2; have a0 := K.out.rd 0 rfl; have l0 := K.out.ltp 0 rfl))
  refine wp_region_noPanic ?_
  refine wp_region_held_drew (S := (fun w' => (∀ j, w'.cell? ⟨g1, j, none⟩ = ([.int .i64 c.th, .int .i64 c.sl, .int .i64 c.src, .int .i64 c.dl] : List Value)[j]?))) (by kernel_rfl) ?_ (fun hHeld => ?_)
  · ((try dsimp only); (first | exact sat.rd 0 (by repeat (with_reducible first | exact K.out | apply sat.alloc_any | apply sat.drew | apply sat.drewN)) rfl | exact sat.rd 1 (by repeat (with_reducible first | exact K.out | apply sat.alloc_any | apply sat.drew | apply sat.drewN)) rfl | exact sat.rd 2 (by repeat (with_reducible first | exact K.out | apply sat.alloc_any | apply sat.drew | apply sat.drewN)) rfl | exact sat.rd 3 (by repeat (with_reducible first | exact K.out | apply sat.alloc_any | apply sat.drew | apply sat.drewN)) rfl | exact sat.rd 4 (by repeat (with_reducible first | exact K.out | apply sat.alloc_any | apply sat.drew | apply sat.drewN)) rfl))
  refine tk 0 (some 7) ?_
  (try simp only [Act.put, p0, p1, p2])
  refine tk 1 (some 8) ?_
  (try simp only [Act.put, p0, p1, p2])
  refine tk 4 (some 11) ?_
  (try simp only [Act.put, p0, p1, p2])
  refine tk 5 (some 12) ?_
  (try simp only [Act.put, p0, p1, p2])
  refine tk 7 (some 14) ?_
  (try simp only [Act.put, p0, p1, p2])
  refine tk 8 (some 15) ?_
  (try simp only [Act.put, p0, p1, p2])
  refine wpAnyH_ready (rs := [2, 6, 9]) (by kernel_rfl) (by simp) ?_
  refine AllReadyH.cons (o := _) rfl (fun kC hkC => ?_) ?_
  go_simp
  (first | (go_at_call 18; (with_reducible refine ((CN _).out).mono ?_); rintro e w1 ⟨rfl, hb⟩; have K1 := sat.grown (show sat _ _ _ from by first | exact K.out | exact K.out.drew) hb; clear hb; have K2 := Lib.hid K1; clear K1 K; have K := K2; clear K2) | (go_at_call 17; (with_reducible refine ((MN _ _ (show sat E _ _ from by first | exact K.out | exact K.out.drew)).out).mono ?_); rintro e w1 ⟨bm, rfl, K1⟩; have K2 := Lib.hid K1; clear K1 K; have K := K2; clear K2) | (refine rg_makeP (E := E) (d := some 13) 59 8 (.pointer none) Tryz.underlying57 ptrInfo (by kernel_rfl) rfl rfl (by first | exact K.out | exact K.out.drew) rfl rfl lz.out lz.out (by omega) (by omega) ?_; intro gt w1 K1; have K2 := Lib.hid K1; clear K1 K; have K := K2; clear K2) | (refine rg_makeP (E := E) (d := some 16) 3 8 (.int .i64 0) Tryz.underlying58 intInfoY (by kernel_rfl) rfl rfl (by first | exact K.out | exact K.out.drew) rfl rfl lz.out lz.out (by omega) (by omega) ?_; intro gm w1 K1; have K2 := Lib.hid K1; clear K1 K; have K := K2; clear K2))
  refine shown hkC _ _ (by (try dsimp only); (first | exact sat.rd 0 (by repeat (with_reducible first | exact K.out | apply sat.alloc_any | apply sat.drew | apply sat.drewN)) rfl | exact sat.rd 1 (by repeat (with_reducible first | exact K.out | apply sat.alloc_any | apply sat.drew | apply sat.drewN)) rfl | exact sat.rd 2 (by repeat (with_reducible first | exact K.out | apply sat.alloc_any | apply sat.drew | apply sat.drewN)) rfl | exact sat.rd 3 (by repeat (with_reducible first | exact K.out | apply sat.alloc_any | apply sat.drew | apply sat.drewN)) rfl | exact sat.rd 4 (by repeat (with_reducible first | exact K.out | apply sat.alloc_any | apply sat.drew | apply sat.drewN)) rfl)) ?_; clear hkC kC hHeld; intro hHeld
  (try simp only [Act.put, p0, p1, p2])
  refine wpAnyH_ready (rs := [3, 6, 9]) (by kernel_rfl) (by simp) ?_
  refine AllReadyH.cons (o := _) rfl (fun kC hkC => ?_) ?_
  go_simp
  (first | (go_at_call 18; (with_reducible refine ((CN _).out).mono ?_); rintro e w1 ⟨rfl, hb⟩; have K1 := sat.grown (show sat _ _ _ from by first | exact K.out | exact K.out.drew) hb; clear hb; have K2 := Lib.hid K1; clear K1 K; have K := K2; clear K2) | (go_at_call 17; (with_reducible refine ((MN _ _ (show sat E _ _ from by first | exact K.out | exact K.out.drew)).out).mono ?_); rintro e w1 ⟨bm, rfl, K1⟩; have K2 := Lib.hid K1; clear K1 K; have K := K2; clear K2) | (refine rg_makeP (E := E) (d := some 13) 59 8 (.pointer none) Tryz.underlying57 ptrInfo (by kernel_rfl) rfl rfl (by first | exact K.out | exact K.out.drew) rfl rfl lz.out lz.out (by omega) (by omega) ?_; intro gt w1 K1; have K2 := Lib.hid K1; clear K1 K; have K := K2; clear K2) | (refine rg_makeP (E := E) (d := some 16) 3 8 (.int .i64 0) Tryz.underlying58 intInfoY (by kernel_rfl) rfl rfl (by first | exact K.out | exact K.out.drew) rfl rfl lz.out lz.out (by omega) (by omega) ?_; intro gm w1 K1; have K2 := Lib.hid K1; clear K1 K; have K := K2; clear K2))
  refine shown hkC _ _ (by (try dsimp only); (first | exact sat.rd 0 (by repeat (with_reducible first | exact K.out | apply sat.alloc_any | apply sat.drew | apply sat.drewN)) rfl | exact sat.rd 1 (by repeat (with_reducible first | exact K.out | apply sat.alloc_any | apply sat.drew | apply sat.drewN)) rfl | exact sat.rd 2 (by repeat (with_reducible first | exact K.out | apply sat.alloc_any | apply sat.drew | apply sat.drewN)) rfl | exact sat.rd 3 (by repeat (with_reducible first | exact K.out | apply sat.alloc_any | apply sat.drew | apply sat.drewN)) rfl | exact sat.rd 4 (by repeat (with_reducible first | exact K.out | apply sat.alloc_any | apply sat.drew | apply sat.drewN)) rfl)) ?_; clear hkC kC hHeld; intro hHeld
  (try simp only [Act.put, p0, p1, p2])
  refine wpAnyH_ready (rs := [6, 9]) (by kernel_rfl) (by simp) ?_
  refine AllReadyH.cons (o := _) rfl (fun kC hkC => ?_) ?_
  (first | (go_at_call 18; (with_reducible refine ((CN _).out).mono ?_); rintro e w1 ⟨rfl, hb⟩; have K1 := sat.grown (show sat _ _ _ from by first | exact K.out | exact K.out.drew) hb; clear hb; have K2 := Lib.hid K1; clear K1 K; have K := K2; clear K2) | (go_at_call 17; (with_reducible refine ((MN _ _ (show sat E _ _ from by first | exact K.out | exact K.out.drew)).out).mono ?_); rintro e w1 ⟨bm, rfl, K1⟩; have K2 := Lib.hid K1; clear K1 K; have K := K2; clear K2) | (refine rg_makeP (E := E) (d := some 13) 59 8 (.pointer none) Tryz.underlying57 ptrInfo (by kernel_rfl) rfl rfl (by first | exact K.out | exact K.out.drew) rfl rfl lz.out lz.out (by omega) (by omega) ?_; intro gt w1 K1; have K2 := Lib.hid K1; clear K1 K; have K := K2; clear K2) | (refine rg_makeP (E := E) (d := some 16) 3 8 (.int .i64 0) Tryz.underlying58 intInfoY (by kernel_rfl) rfl rfl (by first | exact K.out | exact K.out.drew) rfl rfl lz.out lz.out (by omega) (by omega) ?_; intro gm w1 K1; have K2 := Lib.hid K1; clear K1 K; have K := K2; clear K2))
  refine shown hkC _ _ (by (try dsimp only); (first | exact sat.rd 0 (by repeat (with_reducible first | exact K.out | apply sat.alloc_any | apply sat.drew | apply sat.drewN)) rfl | exact sat.rd 1 (by repeat (with_reducible first | exact K.out | apply sat.alloc_any | apply sat.drew | apply sat.drewN)) rfl | exact sat.rd 2 (by repeat (with_reducible first | exact K.out | apply sat.alloc_any | apply sat.drew | apply sat.drewN)) rfl | exact sat.rd 3 (by repeat (with_reducible first | exact K.out | apply sat.alloc_any | apply sat.drew | apply sat.drewN)) rfl | exact sat.rd 4 (by repeat (with_reducible first | exact K.out | apply sat.alloc_any | apply sat.drew | apply sat.drewN)) rfl)) ?_; clear hkC kC hHeld; intro hHeld
  (try simp only [Act.put, p0, p1, p2])
  refine wpAnyH_ready (rs := [9]) (by kernel_rfl) (by simp) ?_
  refine AllReadyH.cons (o := _) rfl (fun kC hkC => ?_) AllReadyH.nil
  (first | (go_at_call 18; (with_reducible refine ((CN _).out).mono ?_); rintro e w1 ⟨rfl, hb⟩; have K1 := sat.grown (show sat _ _ _ from by first | exact K.out | exact K.out.drew) hb; clear hb; have K2 := Lib.hid K1; clear K1 K; have K := K2; clear K2) | (go_at_call 17; (with_reducible refine ((MN _ _ (show sat E _ _ from by first | exact K.out | exact K.out.drew)).out).mono ?_); rintro e w1 ⟨bm, rfl, K1⟩; have K2 := Lib.hid K1; clear K1 K; have K := K2; clear K2) | (refine rg_makeP (E := E) (d := some 13) 59 8 (.pointer none) Tryz.underlying57 ptrInfo (by kernel_rfl) rfl rfl (by first | exact K.out | exact K.out.drew) rfl rfl lz.out lz.out (by omega) (by omega) ?_; intro gt w1 K1; have K2 := Lib.hid K1; clear K1 K; have K := K2; clear K2) | (refine rg_makeP (E := E) (d := some 16) 3 8 (.int .i64 0) Tryz.underlying58 intInfoY (by kernel_rfl) rfl rfl (by first | exact K.out | exact K.out.drew) rfl rfl lz.out lz.out (by omega) (by omega) ?_; intro gm w1 K1; have K2 := Lib.hid K1; clear K1 K; have K := K2; clear K2))
  refine shown hkC _ _ (by (try dsimp only); (first | exact sat.rd 0 (by repeat (with_reducible first | exact K.out | apply sat.alloc_any | apply sat.drew | apply sat.drewN)) rfl | exact sat.rd 1 (by repeat (with_reducible first | exact K.out | apply sat.alloc_any | apply sat.drew | apply sat.drewN)) rfl | exact sat.rd 2 (by repeat (with_reducible first | exact K.out | apply sat.alloc_any | apply sat.drew | apply sat.drewN)) rfl | exact sat.rd 3 (by repeat (with_reducible first | exact K.out | apply sat.alloc_any | apply sat.drew | apply sat.drewN)) rfl | exact sat.rd 4 (by repeat (with_reducible first | exact K.out | apply sat.alloc_any | apply sat.drew | apply sat.drewN)) rfl)) ?_; clear hkC kC hHeld; intro hHeld
  (try simp only [Act.put, p0, p1, p2])
  refine tk 10 (some 17) ?_
  (try simp only [Act.put, p0, p1, p2])
  refine wpAnyH_ready (rs := [11]) (by kernel_rfl) (by simp) ?_
  refine AllReadyH.cons (o := _) rfl (fun kC hkC => ?_) AllReadyH.nil
  (refine rg_box (E := E) (d := some 18) (by kernel_rfl) rfl rfl (by first | exact K.out | exact K.out.drew) rfl rfl (fun _ => rfl) ?_; intro gx w1 K1; have K2 := Lib.hid K1; clear K1 K; have K := K2; clear K2)
  refine shown hkC _ _ (by (try dsimp only); (first | exact sat.rd 0 (by repeat (with_reducible first | exact K.out | apply sat.alloc_any | apply sat.drew | apply sat.drewN)) rfl | exact sat.rd 1 (by repeat (with_reducible first | exact K.out | apply sat.alloc_any | apply sat.drew | apply sat.drewN)) rfl | exact sat.rd 2 (by repeat (with_reducible first | exact K.out | apply sat.alloc_any | apply sat.drew | apply sat.drewN)) rfl | exact sat.rd 3 (by repeat (with_reducible first | exact K.out | apply sat.alloc_any | apply sat.drew | apply sat.drewN)) rfl | exact sat.rd 4 (by repeat (with_reducible first | exact K.out | apply sat.alloc_any | apply sat.drew | apply sat.drewN)) rfl)) ?_; clear hkC kC hHeld; intro hHeld
  (try simp only [Act.put, p0, p1, p2])
  refine tk 12 (some 2) ?_
  (try simp only [Act.put, p0, p1, p2])
  refine tk 13 (some 3) ?_
  (try simp only [Act.put, p0, p1, p2])
  have K1 := K.out; have K2 := Lib.hid K1; clear K1 K; (try clear a0); (try clear l0); (try clear f0); (try clear a1); (try clear l1); (try clear f1); (try clear a2); (try clear l2); (try clear f2); (try clear a3); (try clear l3); (try clear f3); (try clear a4); (try clear l4); (try clear f4); (try clear a5); (try clear l5); (try clear f5); have K := K2; clear K2; (try have a0 := K.out.rd 0 rfl); (try have l0 := K.out.ltp 0 rfl); (try have f0 := K.out.fr 0 rfl); (try have a1 := K.out.rd 1 rfl); (try have l1 := K.out.ltp 1 rfl); (try have f1 := K.out.fr 1 rfl); (try have a2 := K.out.rd 2 rfl); (try have l2 := K.out.ltp 2 rfl); (try have f2 := K.out.fr 2 rfl); (try have a3 := K.out.rd 3 rfl); (try have l3 := K.out.ltp 3 rfl); (try have f3 := K.out.fr 3 rfl)
  refine wpAnyH_done (by kernel_rfl) (NoPanic.normal ?_) _
  rotate_left
  refine AllReadyH.cons (o := _) rfl (fun kC hkC => ?_) ?_
  (first | (go_at_call 18; (with_reducible refine ((CN _).out).mono ?_); rintro e w1 ⟨rfl, hb⟩; have K1 := sat.grown (show sat _ _ _ from by first | exact K.out | exact K.out.drew) hb; clear hb; have K2 := Lib.hid K1; clear K1 K; have K := K2; clear K2) | (go_at_call 17; (with_reducible refine ((MN _ _ (show sat E _ _ from by first | exact K.out | exact K.out.drew)).out).mono ?_); rintro e w1 ⟨bm, rfl, K1⟩; have K2 := Lib.hid K1; clear K1 K; have K := K2; clear K2) | (refine rg_makeP (E := E) (d := some 13) 59 8 (.pointer none) Tryz.underlying57 ptrInfo (by kernel_rfl) rfl rfl (by first | exact K.out | exact K.out.drew) rfl rfl lz.out lz.out (by omega) (by omega) ?_; intro gt w1 K1; have K2 := Lib.hid K1; clear K1 K; have K := K2; clear K2) | (refine rg_makeP (E := E) (d := some 16) 3 8 (.int .i64 0) Tryz.underlying58 intInfoY (by kernel_rfl) rfl rfl (by first | exact K.out | exact K.out.drew) rfl rfl lz.out lz.out (by omega) (by omega) ?_; intro gm w1 K1; have K2 := Lib.hid K1; clear K1 K; have K := K2; clear K2))
  refine shown hkC _ _ (by (try dsimp only); (first | exact sat.rd 0 (by repeat (with_reducible first | exact K.out | apply sat.alloc_any | apply sat.drew | apply sat.drewN)) rfl | exact sat.rd 1 (by repeat (with_reducible first | exact K.out | apply sat.alloc_any | apply sat.drew | apply sat.drewN)) rfl | exact sat.rd 2 (by repeat (with_reducible first | exact K.out | apply sat.alloc_any | apply sat.drew | apply sat.drewN)) rfl | exact sat.rd 3 (by repeat (with_reducible first | exact K.out | apply sat.alloc_any | apply sat.drew | apply sat.drewN)) rfl | exact sat.rd 4 (by repeat (with_reducible first | exact K.out | apply sat.alloc_any | apply sat.drew | apply sat.drewN)) rfl)) ?_; clear hkC kC hHeld; intro hHeld
  (try simp only [Act.put, p0, p1, p2])
  refine wpAnyH_ready (rs := [6]) (by kernel_rfl) (by simp) ?_
  refine AllReadyH.cons (o := _) rfl (fun kC hkC => ?_) AllReadyH.nil
  (first | (go_at_call 18; (with_reducible refine ((CN _).out).mono ?_); rintro e w1 ⟨rfl, hb⟩; have K1 := sat.grown (show sat _ _ _ from by first | exact K.out | exact K.out.drew) hb; clear hb; have K2 := Lib.hid K1; clear K1 K; have K := K2; clear K2) | (go_at_call 17; (with_reducible refine ((MN _ _ (show sat E _ _ from by first | exact K.out | exact K.out.drew)).out).mono ?_); rintro e w1 ⟨bm, rfl, K1⟩; have K2 := Lib.hid K1; clear K1 K; have K := K2; clear K2) | (refine rg_makeP (E := E) (d := some 13) 59 8 (.pointer none) Tryz.underlying57 ptrInfo (by kernel_rfl) rfl rfl (by first | exact K.out | exact K.out.drew) rfl rfl lz.out lz.out (by omega) (by omega) ?_; intro gt w1 K1; have K2 := Lib.hid K1; clear K1 K; have K := K2; clear K2) | (refine rg_makeP (E := E) (d := some 16) 3 8 (.int .i64 0) Tryz.underlying58 intInfoY (by kernel_rfl) rfl rfl (by first | exact K.out | exact K.out.drew) rfl rfl lz.out lz.out (by omega) (by omega) ?_; intro gm w1 K1; have K2 := Lib.hid K1; clear K1 K; have K := K2; clear K2))
  refine shown hkC _ _ (by (try dsimp only); (first | exact sat.rd 0 (by repeat (with_reducible first | exact K.out | apply sat.alloc_any | apply sat.drew | apply sat.drewN)) rfl | exact sat.rd 1 (by repeat (with_reducible first | exact K.out | apply sat.alloc_any | apply sat.drew | apply sat.drewN)) rfl | exact sat.rd 2 (by repeat (with_reducible first | exact K.out | apply sat.alloc_any | apply sat.drew | apply sat.drewN)) rfl | exact sat.rd 3 (by repeat (with_reducible first | exact K.out | apply sat.alloc_any | apply sat.drew | apply sat.drewN)) rfl | exact sat.rd 4 (by repeat (with_reducible first | exact K.out | apply sat.alloc_any | apply sat.drew | apply sat.drewN)) rfl)) ?_; clear hkC kC hHeld; intro hHeld
  (try simp only [Act.put, p0, p1, p2])
  refine tk 10 (some 17) ?_
  (try simp only [Act.put, p0, p1, p2])
  refine wpAnyH_ready (rs := [11]) (by kernel_rfl) (by simp) ?_
  refine AllReadyH.cons (o := _) rfl (fun kC hkC => ?_) AllReadyH.nil
  (refine rg_box (E := E) (d := some 18) (by kernel_rfl) rfl rfl (by first | exact K.out | exact K.out.drew) rfl rfl (fun _ => rfl) ?_; intro gx w1 K1; have K2 := Lib.hid K1; clear K1 K; have K := K2; clear K2)
  refine shown hkC _ _ (by (try dsimp only); (first | exact sat.rd 0 (by repeat (with_reducible first | exact K.out | apply sat.alloc_any | apply sat.drew | apply sat.drewN)) rfl | exact sat.rd 1 (by repeat (with_reducible first | exact K.out | apply sat.alloc_any | apply sat.drew | apply sat.drewN)) rfl | exact sat.rd 2 (by repeat (with_reducible first | exact K.out | apply sat.alloc_any | apply sat.drew | apply sat.drewN)) rfl | exact sat.rd 3 (by repeat (with_reducible first | exact K.out | apply sat.alloc_any | apply sat.drew | apply sat.drewN)) rfl | exact sat.rd 4 (by repeat (with_reducible first | exact K.out | apply sat.alloc_any | apply sat.drew | apply sat.drewN)) rfl)) ?_; clear hkC kC hHeld; intro hHeld
  (try simp only [Act.put, p0, p1, p2])
  refine tk 12 (some 2) ?_
  (try simp only [Act.put, p0, p1, p2])
  refine tk 13 (some 3) ?_
  (try simp only [Act.put, p0, p1, p2])
  have K1 := K.out; have K2 := Lib.hid K1; clear K1 K; (try clear a0); (try clear l0); (try clear f0); (try clear a1); (try clear l1); (try clear f1); (try clear a2); (try clear l2); (try clear f2); (try clear a3); (try clear l3); (try clear f3); (try clear a4); (try clear l4); (try clear f4); (try clear a5); (try clear l5); (try clear f5); have K := K2; clear K2; (try have a0 := K.out.rd 0 rfl); (try have l0 := K.out.ltp 0 rfl); (try have f0 := K.out.fr 0 rfl); (try have a1 := K.out.rd 1 rfl); (try have l1 := K.out.ltp 1 rfl); (try have f1 := K.out.fr 1 rfl); (try have a2 := K.out.rd 2 rfl); (try have l2 := K.out.ltp 2 rfl); (try have f2 := K.out.fr 2 rfl); (try have a3 := K.out.rd 3 rfl); (try have l3 := K.out.ltp 3 rfl); (try have f3 := K.out.fr 3 rfl)
  refine wpAnyH_done (by kernel_rfl) (NoPanic.normal ?_) _
  rotate_left
  exact AllReadyH.nil
  refine AllReadyH.cons (o := _) rfl (fun kC hkC => ?_) ?_
  (first | (go_at_call 18; (with_reducible refine ((CN _).out).mono ?_); rintro e w1 ⟨rfl, hb⟩; have K1 := sat.grown (show sat _ _ _ from by first | exact K.out | exact K.out.drew) hb; clear hb; have K2 := Lib.hid K1; clear K1 K; have K := K2; clear K2) | (go_at_call 17; (with_reducible refine ((MN _ _ (show sat E _ _ from by first | exact K.out | exact K.out.drew)).out).mono ?_); rintro e w1 ⟨bm, rfl, K1⟩; have K2 := Lib.hid K1; clear K1 K; have K := K2; clear K2) | (refine rg_makeP (E := E) (d := some 13) 59 8 (.pointer none) Tryz.underlying57 ptrInfo (by kernel_rfl) rfl rfl (by first | exact K.out | exact K.out.drew) rfl rfl lz.out lz.out (by omega) (by omega) ?_; intro gt w1 K1; have K2 := Lib.hid K1; clear K1 K; have K := K2; clear K2) | (refine rg_makeP (E := E) (d := some 16) 3 8 (.int .i64 0) Tryz.underlying58 intInfoY (by kernel_rfl) rfl rfl (by first | exact K.out | exact K.out.drew) rfl rfl lz.out lz.out (by omega) (by omega) ?_; intro gm w1 K1; have K2 := Lib.hid K1; clear K1 K; have K := K2; clear K2))
  refine shown hkC _ _ (by (try dsimp only); (first | exact sat.rd 0 (by repeat (with_reducible first | exact K.out | apply sat.alloc_any | apply sat.drew | apply sat.drewN)) rfl | exact sat.rd 1 (by repeat (with_reducible first | exact K.out | apply sat.alloc_any | apply sat.drew | apply sat.drewN)) rfl | exact sat.rd 2 (by repeat (with_reducible first | exact K.out | apply sat.alloc_any | apply sat.drew | apply sat.drewN)) rfl | exact sat.rd 3 (by repeat (with_reducible first | exact K.out | apply sat.alloc_any | apply sat.drew | apply sat.drewN)) rfl | exact sat.rd 4 (by repeat (with_reducible first | exact K.out | apply sat.alloc_any | apply sat.drew | apply sat.drewN)) rfl)) ?_; clear hkC kC hHeld; intro hHeld
  (try simp only [Act.put, p0, p1, p2])
  refine wpAnyH_ready (rs := [3, 9]) (by kernel_rfl) (by simp) ?_
  refine AllReadyH.cons (o := _) rfl (fun kC hkC => ?_) ?_
  go_simp
  (first | (go_at_call 18; (with_reducible refine ((CN _).out).mono ?_); rintro e w1 ⟨rfl, hb⟩; have K1 := sat.grown (show sat _ _ _ from by first | exact K.out | exact K.out.drew) hb; clear hb; have K2 := Lib.hid K1; clear K1 K; have K := K2; clear K2) | (go_at_call 17; (with_reducible refine ((MN _ _ (show sat E _ _ from by first | exact K.out | exact K.out.drew)).out).mono ?_); rintro e w1 ⟨bm, rfl, K1⟩; have K2 := Lib.hid K1; clear K1 K; have K := K2; clear K2) | (refine rg_makeP (E := E) (d := some 13) 59 8 (.pointer none) Tryz.underlying57 ptrInfo (by kernel_rfl) rfl rfl (by first | exact K.out | exact K.out.drew) rfl rfl lz.out lz.out (by omega) (by omega) ?_; intro gt w1 K1; have K2 := Lib.hid K1; clear K1 K; have K := K2; clear K2) | (refine rg_makeP (E := E) (d := some 16) 3 8 (.int .i64 0) Tryz.underlying58 intInfoY (by kernel_rfl) rfl rfl (by first | exact K.out | exact K.out.drew) rfl rfl lz.out lz.out (by omega) (by omega) ?_; intro gm w1 K1; have K2 := Lib.hid K1; clear K1 K; have K := K2; clear K2))
  refine shown hkC _ _ (by (try dsimp only); (first | exact sat.rd 0 (by repeat (with_reducible first | exact K.out | apply sat.alloc_any | apply sat.drew | apply sat.drewN)) rfl | exact sat.rd 1 (by repeat (with_reducible first | exact K.out | apply sat.alloc_any | apply sat.drew | apply sat.drewN)) rfl | exact sat.rd 2 (by repeat (with_reducible first | exact K.out | apply sat.alloc_any | apply sat.drew | apply sat.drewN)) rfl | exact sat.rd 3 (by repeat (with_reducible first | exact K.out | apply sat.alloc_any | apply sat.drew | apply sat.drewN)) rfl | exact sat.rd 4 (by repeat (with_reducible first | exact K.out | apply sat.alloc_any | apply sat.drew | apply sat.drewN)) rfl)) ?_; clear hkC kC hHeld; intro hHeld
  (try simp only [Act.put, p0, p1, p2])
  refine wpAnyH_ready (rs := [9]) (by kernel_rfl) (by simp) ?_
  refine AllReadyH.cons (o := _) rfl (fun kC hkC => ?_) AllReadyH.nil
  (first | (go_at_call 18; (with_reducible refine ((CN _).out).mono ?_); rintro e w1 ⟨rfl, hb⟩; have K1 := sat.grown (show sat _ _ _ from by first | exact K.out | exact K.out.drew) hb; clear hb; have K2 := Lib.hid K1; clear K1 K; have K := K2; clear K2) | (go_at_call 17; (with_reducible refine ((MN _ _ (show sat E _ _ from by first | exact K.out | exact K.out.drew)).out).mono ?_); rintro e w1 ⟨bm, rfl, K1⟩; have K2 := Lib.hid K1; clear K1 K; have K := K2; clear K2) | (refine rg_makeP (E := E) (d := some 13) 59 8 (.pointer none) Tryz.underlying57 ptrInfo (by kernel_rfl) rfl rfl (by first | exact K.out | exact K.out.drew) rfl rfl lz.out lz.out (by omega) (by omega) ?_; intro gt w1 K1; have K2 := Lib.hid K1; clear K1 K; have K := K2; clear K2) | (refine rg_makeP (E := E) (d := some 16) 3 8 (.int .i64 0) Tryz.underlying58 intInfoY (by kernel_rfl) rfl rfl (by first | exact K.out | exact K.out.drew) rfl rfl lz.out lz.out (by omega) (by omega) ?_; intro gm w1 K1; have K2 := Lib.hid K1; clear K1 K; have K := K2; clear K2))
  refine shown hkC _ _ (by (try dsimp only); (first | exact sat.rd 0 (by repeat (with_reducible first | exact K.out | apply sat.alloc_any | apply sat.drew | apply sat.drewN)) rfl | exact sat.rd 1 (by repeat (with_reducible first | exact K.out | apply sat.alloc_any | apply sat.drew | apply sat.drewN)) rfl | exact sat.rd 2 (by repeat (with_reducible first | exact K.out | apply sat.alloc_any | apply sat.drew | apply sat.drewN)) rfl | exact sat.rd 3 (by repeat (with_reducible first | exact K.out | apply sat.alloc_any | apply sat.drew | apply sat.drewN)) rfl | exact sat.rd 4 (by repeat (with_reducible first | exact K.out | apply sat.alloc_any | apply sat.drew | apply sat.drewN)) rfl)) ?_; clear hkC kC hHeld; intro hHeld
  (try simp only [Act.put, p0, p1, p2])
  refine tk 10 (some 17) ?_
  (try simp only [Act.put, p0, p1, p2])
  refine wpAnyH_ready (rs := [11]) (by kernel_rfl) (by simp) ?_
  refine AllReadyH.cons (o := _) rfl (fun kC hkC => ?_) AllReadyH.nil
  (refine rg_box (E := E) (d := some 18) (by kernel_rfl) rfl rfl (by first | exact K.out | exact K.out.drew) rfl rfl (fun _ => rfl) ?_; intro gx w1 K1; have K2 := Lib.hid K1; clear K1 K; have K := K2; clear K2)
  refine shown hkC _ _ (by (try dsimp only); (first | exact sat.rd 0 (by repeat (with_reducible first | exact K.out | apply sat.alloc_any | apply sat.drew | apply sat.drewN)) rfl | exact sat.rd 1 (by repeat (with_reducible first | exact K.out | apply sat.alloc_any | apply sat.drew | apply sat.drewN)) rfl | exact sat.rd 2 (by repeat (with_reducible first | exact K.out | apply sat.alloc_any | apply sat.drew | apply sat.drewN)) rfl | exact sat.rd 3 (by repeat (with_reducible first | exact K.out | apply sat.alloc_any | apply sat.drew | apply sat.drewN)) rfl | exact sat.rd 4 (by repeat (with_reducible first | exact K.out | apply sat.alloc_any | apply sat.drew | apply sat.drewN)) rfl)) ?_; clear hkC kC hHeld; intro hHeld
  (try simp only [Act.put, p0, p1, p2])
  refine tk 12 (some 2) ?_
  (try simp only [Act.put, p0, p1, p2])
  refine tk 13 (some 3) ?_
  (try simp only [Act.put, p0, p1, p2])
  have K1 := K.out; have K2 := Lib.hid K1; clear K1 K; (try clear a0); (try clear l0); (try clear f0); (try clear a1); (try clear l1); (try clear f1); (try clear a2); (try clear l2); (try clear f2); (try clear a3); (try clear l3); (try clear f3); (try clear a4); (try clear l4); (try clear f4); (try clear a5); (try clear l5); (try clear f5); have K := K2; clear K2; (try have a0 := K.out.rd 0 rfl); (try have l0 := K.out.ltp 0 rfl); (try have f0 := K.out.fr 0 rfl); (try have a1 := K.out.rd 1 rfl); (try have l1 := K.out.ltp 1 rfl); (try have f1 := K.out.fr 1 rfl); (try have a2 := K.out.rd 2 rfl); (try have l2 := K.out.ltp 2 rfl); (try have f2 := K.out.fr 2 rfl); (try have a3 := K.out.rd 3 rfl); (try have l3 := K.out.ltp 3 rfl); (try have f3 := K.out.fr 3 rfl)
  refine wpAnyH_done (by kernel_rfl) (NoPanic.normal ?_) _
  rotate_left
  refine AllReadyH.cons (o := _) rfl (fun kC hkC => ?_) ?_
  (first | (go_at_call 18; (with_reducible refine ((CN _).out).mono ?_); rintro e w1 ⟨rfl, hb⟩; have K1 := sat.grown (show sat _ _ _ from by first | exact K.out | exact K.out.drew) hb; clear hb; have K2 := Lib.hid K1; clear K1 K; have K := K2; clear K2) | (go_at_call 17; (with_reducible refine ((MN _ _ (show sat E _ _ from by first | exact K.out | exact K.out.drew)).out).mono ?_); rintro e w1 ⟨bm, rfl, K1⟩; have K2 := Lib.hid K1; clear K1 K; have K := K2; clear K2) | (refine rg_makeP (E := E) (d := some 13) 59 8 (.pointer none) Tryz.underlying57 ptrInfo (by kernel_rfl) rfl rfl (by first | exact K.out | exact K.out.drew) rfl rfl lz.out lz.out (by omega) (by omega) ?_; intro gt w1 K1; have K2 := Lib.hid K1; clear K1 K; have K := K2; clear K2) | (refine rg_makeP (E := E) (d := some 16) 3 8 (.int .i64 0) Tryz.underlying58 intInfoY (by kernel_rfl) rfl rfl (by first | exact K.out | exact K.out.drew) rfl rfl lz.out lz.out (by omega) (by omega) ?_; intro gm w1 K1; have K2 := Lib.hid K1; clear K1 K; have K := K2; clear K2))
  refine shown hkC _ _ (by (try dsimp only); (first | exact sat.rd 0 (by repeat (with_reducible first | exact K.out | apply sat.alloc_any | apply sat.drew | apply sat.drewN)) rfl | exact sat.rd 1 (by repeat (with_reducible first | exact K.out | apply sat.alloc_any | apply sat.drew | apply sat.drewN)) rfl | exact sat.rd 2 (by repeat (with_reducible first | exact K.out | apply sat.alloc_any | apply sat.drew | apply sat.drewN)) rfl | exact sat.rd 3 (by repeat (with_reducible first | exact K.out | apply sat.alloc_any | apply sat.drew | apply sat.drewN)) rfl | exact sat.rd 4 (by repeat (with_reducible first | exact K.out | apply sat.alloc_any | apply sat.drew | apply sat.drewN)) rfl)) ?_; clear hkC kC hHeld; intro hHeld
  (try simp only [Act.put, p0, p1, p2])
  refine wpAnyH_ready (rs := [3]) (by kernel_rfl) (by simp) ?_
  refine AllReadyH.cons (o := _) rfl (fun kC hkC => ?_) AllReadyH.nil
  go_simp
  (first | (go_at_call 18; (with_reducible refine ((CN _).out).mono ?_); rintro e w1 ⟨rfl, hb⟩; have K1 := sat.grown (show sat _ _ _ from by first | exact K.out | exact K.out.drew) hb; clear hb; have K2 := Lib.hid K1; clear K1 K; have K := K2; clear K2) | (go_at_call 17; (with_reducible refine ((MN _ _ (show sat E _ _ from by first | exact K.out | exact K.out.drew)).out).mono ?_); rintro e w1 ⟨bm, rfl, K1⟩; have K2 := Lib.hid K1; clear K1 K; have K := K2; clear K2) | (refine rg_makeP (E := E) (d := some 13) 59 8 (.pointer none) Tryz.underlying57 ptrInfo (by kernel_rfl) rfl rfl (by first | exact K.out | exact K.out.drew) rfl rfl lz.out lz.out (by omega) (by omega) ?_; intro gt w1 K1; have K2 := Lib.hid K1; clear K1 K; have K := K2; clear K2) | (refine rg_makeP (E := E) (d := some 16) 3 8 (.int .i64 0) Tryz.underlying58 intInfoY (by kernel_rfl) rfl rfl (by first | exact K.out | exact K.out.drew) rfl rfl lz.out lz.out (by omega) (by omega) ?_; intro gm w1 K1; have K2 := Lib.hid K1; clear K1 K; have K := K2; clear K2))
  refine shown hkC _ _ (by (try dsimp only); (first | exact sat.rd 0 (by repeat (with_reducible first | exact K.out | apply sat.alloc_any | apply sat.drew | apply sat.drewN)) rfl | exact sat.rd 1 (by repeat (with_reducible first | exact K.out | apply sat.alloc_any | apply sat.drew | apply sat.drewN)) rfl | exact sat.rd 2 (by repeat (with_reducible first | exact K.out | apply sat.alloc_any | apply sat.drew | apply sat.drewN)) rfl | exact sat.rd 3 (by repeat (with_reducible first | exact K.out | apply sat.alloc_any | apply sat.drew | apply sat.drewN)) rfl | exact sat.rd 4 (by repeat (with_reducible first | exact K.out | apply sat.alloc_any | apply sat.drew | apply sat.drewN)) rfl)) ?_; clear hkC kC hHeld; intro hHeld
  (try simp only [Act.put, p0, p1, p2])
  refine tk 10 (some 17) ?_
  (try simp only [Act.put, p0, p1, p2])
  refine wpAnyH_ready (rs := [11]) (by kernel_rfl) (by simp) ?_
  refine AllReadyH.cons (o := _) rfl (fun kC hkC => ?_) AllReadyH.nil
  (refine rg_box (E := E) (d := some 18) (by kernel_rfl) rfl rfl (by first | exact K.out | exact K.out.drew) rfl rfl (fun _ => rfl) ?_; intro gx w1 K1; have K2 := Lib.hid K1; clear K1 K; have K := K2; clear K2)
  refine shown hkC _ _ (by (try dsimp only); (first | exact sat.rd 0 (by repeat (with_reducible first | exact K.out | apply sat.alloc_any | apply sat.drew | apply sat.drewN)) rfl | exact sat.rd 1 (by repeat (with_reducible first | exact K.out | apply sat.alloc_any | apply sat.drew | apply sat.drewN)) rfl | exact sat.rd 2 (by repeat (with_reducible first | exact K.out | apply sat.alloc_any | apply sat.drew | apply sat.drewN)) rfl | exact sat.rd 3 (by repeat (with_reducible first | exact K.out | apply sat.alloc_any | apply sat.drew | apply sat.drewN)) rfl | exact sat.rd 4 (by repeat (with_reducible first | exact K.out | apply sat.alloc_any | apply sat.drew | apply sat.drewN)) rfl)) ?_; clear hkC kC hHeld; intro hHeld
  (try simp only [Act.put, p0, p1, p2])
  refine tk 12 (some 2) ?_
  (try simp only [Act.put, p0, p1, p2])
  refine tk 13 (some 3) ?_
  (try simp only [Act.put, p0, p1, p2])
  have K1 := K.out; have K2 := Lib.hid K1; clear K1 K; (try clear a0); (try clear l0); (try clear f0); (try clear a1); (try clear l1); (try clear f1); (try clear a2); (try clear l2); (try clear f2); (try clear a3); (try clear l3); (try clear f3); (try clear a4); (try clear l4); (try clear f4); (try clear a5); (try clear l5); (try clear f5); have K := K2; clear K2; (try have a0 := K.out.rd 0 rfl); (try have l0 := K.out.ltp 0 rfl); (try have f0 := K.out.fr 0 rfl); (try have a1 := K.out.rd 1 rfl); (try have l1 := K.out.ltp 1 rfl); (try have f1 := K.out.fr 1 rfl); (try have a2 := K.out.rd 2 rfl); (try have l2 := K.out.ltp 2 rfl); (try have f2 := K.out.fr 2 rfl); (try have a3 := K.out.rd 3 rfl); (try have l3 := K.out.ltp 3 rfl); (try have f3 := K.out.fr 3 rfl)
  refine wpAnyH_done (by kernel_rfl) (NoPanic.normal ?_) _
  rotate_left
  exact AllReadyH.nil
  refine AllReadyH.cons (o := _) rfl (fun kC hkC => ?_) ?_
  (first | (go_at_call 18; (with_reducible refine ((CN _).out).mono ?_); rintro e w1 ⟨rfl, hb⟩; have K1 := sat.grown (show sat _ _ _ from by first | exact K.out | exact K.out.drew) hb; clear hb; have K2 := Lib.hid K1; clear K1 K; have K := K2; clear K2) | (go_at_call 17; (with_reducible refine ((MN _ _ (show sat E _ _ from by first | exact K.out | exact K.out.drew)).out).mono ?_); rintro e w1 ⟨bm, rfl, K1⟩; have K2 := Lib.hid K1; clear K1 K; have K := K2; clear K2) | (refine rg_makeP (E := E) (d := some 13) 59 8 (.pointer none) Tryz.underlying57 ptrInfo (by kernel_rfl) rfl rfl (by first | exact K.out | exact K.out.drew) rfl rfl lz.out lz.out (by omega) (by omega) ?_; intro gt w1 K1; have K2 := Lib.hid K1; clear K1 K; have K := K2; clear K2) | (refine rg_makeP (E := E) (d := some 16) 3 8 (.int .i64 0) Tryz.underlying58 intInfoY (by kernel_rfl) rfl rfl (by first | exact K.out | exact K.out.drew) rfl rfl lz.out lz.out (by omega) (by omega) ?_; intro gm w1 K1; have K2 := Lib.hid K1; clear K1 K; have K := K2; clear K2))
  refine shown hkC _ _ (by (try dsimp only); (first | exact sat.rd 0 (by repeat (with_reducible first | exact K.out | apply sat.alloc_any | apply sat.drew | apply sat.drewN)) rfl | exact sat.rd 1 (by repeat (with_reducible first | exact K.out | apply sat.alloc_any | apply sat.drew | apply sat.drewN)) rfl | exact sat.rd 2 (by repeat (with_reducible first | exact K.out | apply sat.alloc_any | apply sat.drew | apply sat.drewN)) rfl | exact sat.rd 3 (by repeat (with_reducible first | exact K.out | apply sat.alloc_any | apply sat.drew | apply sat.drewN)) rfl | exact sat.rd 4 (by repeat (with_reducible first | exact K.out | apply sat.alloc_any | apply sat.drew | apply sat.drewN)) rfl)) ?_; clear hkC kC hHeld; intro hHeld
  (try simp only [Act.put, p0, p1, p2])
  refine wpAnyH_ready (rs := [3, 6]) (by kernel_rfl) (by simp) ?_
  refine AllReadyH.cons (o := _) rfl (fun kC hkC => ?_) ?_
  go_simp
  (first | (go_at_call 18; (with_reducible refine ((CN _).out).mono ?_); rintro e w1 ⟨rfl, hb⟩; have K1 := sat.grown (show sat _ _ _ from by first | exact K.out | exact K.out.drew) hb; clear hb; have K2 := Lib.hid K1; clear K1 K; have K := K2; clear K2) | (go_at_call 17; (with_reducible refine ((MN _ _ (show sat E _ _ from by first | exact K.out | exact K.out.drew)).out).mono ?_); rintro e w1 ⟨bm, rfl, K1⟩; have K2 := Lib.hid K1; clear K1 K; have K := K2; clear K2) | (refine rg_makeP (E := E) (d := some 13) 59 8 (.pointer none) Tryz.underlying57 ptrInfo (by kernel_rfl) rfl rfl (by first | exact K.out | exact K.out.drew) rfl rfl lz.out lz.out (by omega) (by omega) ?_; intro gt w1 K1; have K2 := Lib.hid K1; clear K1 K; have K := K2; clear K2) | (refine rg_makeP (E := E) (d := some 16) 3 8 (.int .i64 0) Tryz.underlying58 intInfoY (by kernel_rfl) rfl rfl (by first | exact K.out | exact K.out.drew) rfl rfl lz.out lz.out (by omega) (by omega) ?_; intro gm w1 K1; have K2 := Lib.hid K1; clear K1 K; have K := K2; clear K2))
  refine shown hkC _ _ (by (try dsimp only); (first | exact sat.rd 0 (by repeat (with_reducible first | exact K.out | apply sat.alloc_any | apply sat.drew | apply sat.drewN)) rfl | exact sat.rd 1 (by repeat (with_reducible first | exact K.out | apply sat.alloc_any | apply sat.drew | apply sat.drewN)) rfl | exact sat.rd 2 (by repeat (with_reducible first | exact K.out | apply sat.alloc_any | apply sat.drew | apply sat.drewN)) rfl | exact sat.rd 3 (by repeat (with_reducible first | exact K.out | apply sat.alloc_any | apply sat.drew | apply sat.drewN)) rfl | exact sat.rd 4 (by repeat (with_reducible first | exact K.out | apply sat.alloc_any | apply sat.drew | apply sat.drewN)) rfl)) ?_; clear hkC kC hHeld; intro hHeld
  (try simp only [Act.put, p0, p1, p2])
  refine wpAnyH_ready (rs := [6]) (by kernel_rfl) (by simp) ?_
  refine AllReadyH.cons (o := _) rfl (fun kC hkC => ?_) AllReadyH.nil
  (first | (go_at_call 18; (with_reducible refine ((CN _).out).mono ?_); rintro e w1 ⟨rfl, hb⟩; have K1 := sat.grown (show sat _ _ _ from by first | exact K.out | exact K.out.drew) hb; clear hb; have K2 := Lib.hid K1; clear K1 K; have K := K2; clear K2) | (go_at_call 17; (with_reducible refine ((MN _ _ (show sat E _ _ from by first | exact K.out | exact K.out.drew)).out).mono ?_); rintro e w1 ⟨bm, rfl, K1⟩; have K2 := Lib.hid K1; clear K1 K; have K := K2; clear K2) | (refine rg_makeP (E := E) (d := some 13) 59 8 (.pointer none) Tryz.underlying57 ptrInfo (by kernel_rfl) rfl rfl (by first | exact K.out | exact K.out.drew) rfl rfl lz.out lz.out (by omega) (by omega) ?_; intro gt w1 K1; have K2 := Lib.hid K1; clear K1 K; have K := K2; clear K2) | (refine rg_makeP (E := E) (d := some 16) 3 8 (.int .i64 0) Tryz.underlying58 intInfoY (by kernel_rfl) rfl rfl (by first | exact K.out | exact K.out.drew) rfl rfl lz.out lz.out (by omega) (by omega) ?_; intro gm w1 K1; have K2 := Lib.hid K1; clear K1 K; have K := K2; clear K2))
  refine shown hkC _ _ (by (try dsimp only); (first | exact sat.rd 0 (by repeat (with_reducible first | exact K.out | apply sat.alloc_any | apply sat.drew | apply sat.drewN)) rfl | exact sat.rd 1 (by repeat (with_reducible first | exact K.out | apply sat.alloc_any | apply sat.drew | apply sat.drewN)) rfl | exact sat.rd 2 (by repeat (with_reducible first | exact K.out | apply sat.alloc_any | apply sat.drew | apply sat.drewN)) rfl | exact sat.rd 3 (by repeat (with_reducible first | exact K.out | apply sat.alloc_any | apply sat.drew | apply sat.drewN)) rfl | exact sat.rd 4 (by repeat (with_reducible first | exact K.out | apply sat.alloc_any | apply sat.drew | apply sat.drewN)) rfl)) ?_; clear hkC kC hHeld; intro hHeld
  (try simp only [Act.put, p0, p1, p2])
  refine tk 10 (some 17) ?_
  (try simp only [Act.put, p0, p1, p2])
  refine wpAnyH_ready (rs := [11]) (by kernel_rfl) (by simp) ?_
  refine AllReadyH.cons (o := _) rfl (fun kC hkC => ?_) AllReadyH.nil
  (refine rg_box (E := E) (d := some 18) (by kernel_rfl) rfl rfl (by first | exact K.out | exact K.out.drew) rfl rfl (fun _ => rfl) ?_; intro gx w1 K1; have K2 := Lib.hid K1; clear K1 K; have K := K2; clear K2)
  refine shown hkC _ _ (by (try dsimp only); (first | exact sat.rd 0 (by repeat (with_reducible first | exact K.out | apply sat.alloc_any | apply sat.drew | apply sat.drewN)) rfl | exact sat.rd 1 (by repeat (with_reducible first | exact K.out | apply sat.alloc_any | apply sat.drew | apply sat.drewN)) rfl | exact sat.rd 2 (by repeat (with_reducible first | exact K.out | apply sat.alloc_any | apply sat.drew | apply sat.drewN)) rfl | exact sat.rd 3 (by repeat (with_reducible first | exact K.out | apply sat.alloc_any | apply sat.drew | apply sat.drewN)) rfl | exact sat.rd 4 (by repeat (with_reducible first | exact K.out | apply sat.alloc_any | apply sat.drew | apply sat.drewN)) rfl)) ?_; clear hkC kC hHeld; intro hHeld
  (try simp only [Act.put, p0, p1, p2])
  refine tk 12 (some 2) ?_
  (try simp only [Act.put, p0, p1, p2])
  refine tk 13 (some 3) ?_
  (try simp only [Act.put, p0, p1, p2])
  have K1 := K.out; have K2 := Lib.hid K1; clear K1 K; (try clear a0); (try clear l0); (try clear f0); (try clear a1); (try clear l1); (try clear f1); (try clear a2); (try clear l2); (try clear f2); (try clear a3); (try clear l3); (try clear f3); (try clear a4); (try clear l4); (try clear f4); (try clear a5); (try clear l5); (try clear f5); have K := K2; clear K2; (try have a0 := K.out.rd 0 rfl); (try have l0 := K.out.ltp 0 rfl); (try have f0 := K.out.fr 0 rfl); (try have a1 := K.out.rd 1 rfl); (try have l1 := K.out.ltp 1 rfl); (try have f1 := K.out.fr 1 rfl); (try have a2 := K.out.rd 2 rfl); (try have l2 := K.out.ltp 2 rfl); (try have f2 := K.out.fr 2 rfl); (try have a3 := K.out.rd 3 rfl); (try have l3 := K.out.ltp 3 rfl); (try have f3 := K.out.fr 3 rfl)
  refine wpAnyH_done (by kernel_rfl) (NoPanic.normal ?_) _
  rotate_left
  refine AllReadyH.cons (o := _) rfl (fun kC hkC => ?_) ?_
  (first | (go_at_call 18; (with_reducible refine ((CN _).out).mono ?_); rintro e w1 ⟨rfl, hb⟩; have K1 := sat.grown (show sat _ _ _ from by first | exact K.out | exact K.out.drew) hb; clear hb; have K2 := Lib.hid K1; clear K1 K; have K := K2; clear K2) | (go_at_call 17; (with_reducible refine ((MN _ _ (show sat E _ _ from by first | exact K.out | exact K.out.drew)).out).mono ?_); rintro e w1 ⟨bm, rfl, K1⟩; have K2 := Lib.hid K1; clear K1 K; have K := K2; clear K2) | (refine rg_makeP (E := E) (d := some 13) 59 8 (.pointer none) Tryz.underlying57 ptrInfo (by kernel_rfl) rfl rfl (by first | exact K.out | exact K.out.drew) rfl rfl lz.out lz.out (by omega) (by omega) ?_; intro gt w1 K1; have K2 := Lib.hid K1; clear K1 K; have K := K2; clear K2) | (refine rg_makeP (E := E) (d := some 16) 3 8 (.int .i64 0) Tryz.underlying58 intInfoY (by kernel_rfl) rfl rfl (by first | exact K.out | exact K.out.drew) rfl rfl lz.out lz.out (by omega) (by omega) ?_; intro gm w1 K1; have K2 := Lib.hid K1; clear K1 K; have K := K2; clear K2))
  refine shown hkC _ _ (by (try dsimp only); (first | exact sat.rd 0 (by repeat (with_reducible first | exact K.out | apply sat.alloc_any | apply sat.drew | apply sat.drewN)) rfl | exact sat.rd 1 (by repeat (with_reducible first | exact K.out | apply sat.alloc_any | apply sat.drew | apply sat.drewN)) rfl | exact sat.rd 2 (by repeat (with_reducible first | exact K.out | apply sat.alloc_any | apply sat.drew | apply sat.drewN)) rfl | exact sat.rd 3 (by repeat (with_reducible first | exact K.out | apply sat.alloc_any | apply sat.drew | apply sat.drewN)) rfl | exact sat.rd 4 (by repeat (with_reducible first | exact K.out | apply sat.alloc_any | apply sat.drew | apply sat.drewN)) rfl)) ?_; clear hkC kC hHeld; intro hHeld
  (try simp only [Act.put, p0, p1, p2])
  refine wpAnyH_ready (rs := [3]) (by kernel_rfl) (by simp) ?_
  refine AllReadyH.cons (o := _) rfl (fun kC hkC => ?_) AllReadyH.nil
  go_simp
  (first | (go_at_call 18; (with_reducible refine ((CN _).out).mono ?_); rintro e w1 ⟨rfl, hb⟩; have K1 := sat.grown (show sat _ _ _ from by first | exact K.out | exact K.out.drew) hb; clear hb; have K2 := Lib.hid K1; clear K1 K; have K := K2; clear K2) | (go_at_call 17; (with_reducible refine ((MN _ _ (show sat E _ _ from by first | exact K.out | exact K.out.drew)).out).mono ?_); rintro e w1 ⟨bm, rfl, K1⟩; have K2 := Lib.hid K1; clear K1 K; have K := K2; clear K2) | (refine rg_makeP (E := E) (d := some 13) 59 8 (.pointer none) Tryz.underlying57 ptrInfo (by kernel_rfl) rfl rfl (by first | exact K.out | exact K.out.drew) rfl rfl lz.out lz.out (by omega) (by omega) ?_; intro gt w1 K1; have K2 := Lib.hid K1; clear K1 K; have K := K2; clear K2) | (refine rg_makeP (E := E) (d := some 16) 3 8 (.int .i64 0) Tryz.underlying58 intInfoY (by kernel_rfl) rfl rfl (by first | exact K.out | exact K.out.drew) rfl rfl lz.out lz.out (by omega) (by omega) ?_; intro gm w1 K1; have K2 := Lib.hid K1; clear K1 K; have K := K2; clear K2))
  refine shown hkC _ _ (by (try dsimp only); (first | exact sat.rd 0 (by repeat (with_reducible first | exact K.out | apply sat.alloc_any | apply sat.drew | apply sat.drewN)) rfl | exact sat.rd 1 (by repeat (with_reducible first | exact K.out | apply sat.alloc_any | apply sat.drew | apply sat.drewN)) rfl | exact sat.rd 2 (by repeat (with_reducible first | exact K.out | apply sat.alloc_any | apply sat.drew | apply sat.drewN)) rfl | exact sat.rd 3 (by repeat (with_reducible first | exact K.out | apply sat.alloc_any | apply sat.drew | apply sat.drewN)) rfl | exact sat.rd 4 (by repeat (with_reducible first | exact K.out | apply sat.alloc_any | apply sat.drew | apply sat.drewN)) rfl)) ?_; clear hkC kC hHeld; intro hHeld
  (try simp only [Act.put, p0, p1, p2])
  refine tk 10 (some 17) ?_
  (try simp only [Act.put, p0, p1, p2])
  refine wpAnyH_ready (rs := [11]) (by kernel_rfl) (by simp) ?_
  refine AllReadyH.cons (o := _) rfl (fun kC hkC => ?_) AllReadyH.nil
  (refine rg_box (E := E) (d := some 18) (by kernel_rfl) rfl rfl (by first | exact K.out | exact K.out.drew) rfl rfl (fun _ => rfl) ?_; intro gx w1 K1; have K2 := Lib.hid K1; clear K1 K; have K := K2; clear K2)
  refine shown hkC _ _ (by (try dsimp only); (first | exact sat.rd 0 (by repeat (with_reducible first | exact K.out | apply sat.alloc_any | apply sat.drew | apply sat.drewN)) rfl | exact sat.rd 1 (by repeat (with_reducible first | exact K.out | apply sat.alloc_any | apply sat.drew | apply sat.drewN)) rfl | exact sat.rd 2 (by repeat (with_reducible first | exact K.out | apply sat.alloc_any | apply sat.drew | apply sat.drewN)) rfl | exact sat.rd 3 (by repeat (with_reducible first | exact K.out | apply sat.alloc_any | apply sat.drew | apply sat.drewN)) rfl | exact sat.rd 4 (by repeat (with_reducible first | exact K.out | apply sat.alloc_any | apply sat.drew | apply sat.drewN)) rfl)) ?_; clear hkC kC hHeld; intro hHeld
  (try simp only [Act.put, p0, p1, p2])
  refine tk 12 (some 2) ?_
  (try simp only [Act.put, p0, p1, p2])
  refine tk 13 (some 3) ?_
  (try simp only [Act.put, p0, p1, p2])
  have K1 := K.out; have K2 := Lib.hid K1; clear K1 K; (try clear a0); (try clear l0); (try clear f0); (try clear a1); (try clear l1); (try clear f1); (try clear a2); (try clear l2); (try clear f2); (try clear a3); (try clear l3); (try clear f3); (try clear a4); (try clear l4); (try clear f4); (try clear a5); (try clear l5); (try clear f5); have K := K2; clear K2; (try have a0 := K.out.rd 0 rfl); (try have l0 := K.out.ltp 0 rfl); (try have f0 := K.out.fr 0 rfl); (try have a1 := K.out.rd 1 rfl); (try have l1 := K.out.ltp 1 rfl); (try have f1 := K.out.fr 1 rfl); (try have a2 := K.out.rd 2 rfl); (try have l2 := K.out.ltp 2 rfl); (try have f2 := K.out.fr 2 rfl); (try have a3 := K.out.rd 3 rfl); (try have l3 := K.out.ltp 3 rfl); (try have f3 := K.out.fr 3 rfl)
  refine wpAnyH_done (by kernel_rfl) (NoPanic.normal ?_) _
  rotate_left
  exact AllReadyH.nil
  exact AllReadyH.nil
  refine AllReadyH.cons (o := _) rfl (fun kC hkC => ?_) ?_
  (first | (go_at_call 18; (with_reducible refine ((CN _).out).mono ?_); rintro e w1 ⟨rfl, hb⟩; have K1 := sat.grown (show sat _ _ _ from by first | exact K.out | exact K.out.drew) hb; clear hb; have K2 := Lib.hid K1; clear K1 K; have K := K2; clear K2) | (go_at_call 17; (with_reducible refine ((MN _ _ (show sat E _ _ from by first | exact K.out | exact K.out.drew)).out).mono ?_); rintro e w1 ⟨bm, rfl, K1⟩; have K2 := Lib.hid K1; clear K1 K; have K := K2; clear K2) | (refine rg_makeP (E := E) (d := some 13) 59 8 (.pointer none) Tryz.underlying57 ptrInfo (by kernel_rfl) rfl rfl (by first | exact K.out | exact K.out.drew) rfl rfl lz.out lz.out (by omega) (by omega) ?_; intro gt w1 K1; have K2 := Lib.hid K1; clear K1 K; have K := K2; clear K2) | (refine rg_makeP (E := E) (d := some 16) 3 8 (.int .i64 0) Tryz.underlying58 intInfoY (by kernel_rfl) rfl rfl (by first | exact K.out | exact K.out.drew) rfl rfl lz.out lz.out (by omega) (by omega) ?_; intro gm w1 K1; have K2 := Lib.hid K1; clear K1 K; have K := K2; clear K2))
  refine shown hkC _ _ (by (try dsimp only); (first | exact sat.rd 0 (by repeat (with_reducible first | exact K.out | apply sat.alloc_any | apply sat.drew | apply sat.drewN)) rfl | exact sat.rd 1 (by repeat (with_reducible first | exact K.out | apply sat.alloc_any | apply sat.drew | apply sat.drewN)) rfl | exact sat.rd 2 (by repeat (with_reducible first | exact K.out | apply sat.alloc_any | apply sat.drew | apply sat.drewN)) rfl | exact sat.rd 3 (by repeat (with_reducible first | exact K.out | apply sat.alloc_any | apply sat.drew | apply sat.drewN)) rfl | exact sat.rd 4 (by repeat (with_reducible first | exact K.out | apply sat.alloc_any | apply sat.drew | apply sat.drewN)) rfl)) ?_; clear hkC kC hHeld; intro hHeld
  (try simp only [Act.put, p0, p1, p2])
  refine wpAnyH_ready (rs := [2, 9]) (by kernel_rfl) (by simp) ?_
  refine AllReadyH.cons (o := _) rfl (fun kC hkC => ?_) ?_
  go_simp
  (first | (go_at_call 18; (with_reducible refine ((CN _).out).mono ?_); rintro e w1 ⟨rfl, hb⟩; have K1 := sat.grown (show sat _ _ _ from by first | exact K.out | exact K.out.drew) hb; clear hb; have K2 := Lib.hid K1; clear K1 K; have K := K2; clear K2) | (go_at_call 17; (with_reducible refine ((MN _ _ (show sat E _ _ from by first | exact K.out | exact K.out.drew)).out).mono ?_); rintro e w1 ⟨bm, rfl, K1⟩; have K2 := Lib.hid K1; clear K1 K; have K := K2; clear K2) | (refine rg_makeP (E := E) (d := some 13) 59 8 (.pointer none) Tryz.underlying57 ptrInfo (by kernel_rfl) rfl rfl (by first | exact K.out | exact K.out.drew) rfl rfl lz.out lz.out (by omega) (by omega) ?_; intro gt w1 K1; have K2 := Lib.hid K1; clear K1 K; have K := K2; clear K2) | (refine rg_makeP (E := E) (d := some 16) 3 8 (.int .i64 0) Tryz.underlying58 intInfoY (by kernel_rfl) rfl rfl (by first | exact K.out | exact K.out.drew) rfl rfl lz.out lz.out (by omega) (by omega) ?_; intro gm w1 K1; have K2 := Lib.hid K1; clear K1 K; have K := K2; clear K2))
  refine shown hkC _ _ (by (try dsimp only); (first | exact sat.rd 0 (by repeat (with_reducible first | exact K.out | apply sat.alloc_any | apply sat.drew | apply sat.drewN)) rfl | exact sat.rd 1 (by repeat (with_reducible first | exact K.out | apply sat.alloc_any | apply sat.drew | apply sat.drewN)) rfl | exact sat.rd 2 (by repeat (with_reducible first | exact K.out | apply sat.alloc_any | apply sat.drew | apply sat.drewN)) rfl | exact sat.rd 3 (by repeat (with_reducible first | exact K.out | apply sat.alloc_any | apply sat.drew | apply sat.drewN)) rfl | exact sat.rd 4 (by repeat (with_reducible first | exact K.out | apply sat.alloc_any | apply sat.drew | apply sat.drewN)) rfl)) ?_; clear hkC kC hHeld; intro hHeld
  (try simp only [Act.put, p0, p1, p2])
  refine wpAnyH_ready (rs := [3, 9]) (by kernel_rfl) (by simp) ?_
  refine AllReadyH.cons (o := _) rfl (fun kC hkC => ?_) ?_
  go_simp
  (first | (go_at_call 18; (with_reducible refine ((CN _).out).mono ?_); rintro e w1 ⟨rfl, hb⟩; have K1 := sat.grown (show sat _ _ _ from by first | exact K.out | exact K.out.drew) hb; clear hb; have K2 := Lib.hid K1; clear K1 K; have K := K2; clear K2) | (go_at_call 17; (with_reducible refine ((MN _ _ (show sat E _ _ from by first | exact K.out | exact K.out.drew)).out).mono ?_); rintro e w1 ⟨bm, rfl, K1⟩; have K2 := Lib.hid K1; clear K1 K; have K := K2; clear K2) | (refine rg_makeP (E := E) (d := some 13) 59 8 (.pointer none) Tryz.underlying57 ptrInfo (by kernel_rfl) rfl rfl (by first | exact K.out | exact K.out.drew) rfl rfl lz.out lz.out (by omega) (by omega) ?_; intro gt w1 K1; have K2 := Lib.hid K1; clear K1 K; have K := K2; clear K2) | (refine rg_makeP (E := E) (d := some 16) 3 8 (.int .i64 0) Tryz.underlying58 intInfoY (by kernel_rfl) rfl rfl (by first | exact K.out | exact K.out.drew) rfl rfl lz.out lz.out (by omega) (by omega) ?_; intro gm w1 K1; have K2 := Lib.hid K1; clear K1 K; have K := K2; clear K2))
  refine shown hkC _ _ (by (try dsimp only); (first | exact sat.rd 0 (by repeat (with_reducible first | exact K.out | apply sat.alloc_any | apply sat.drew | apply sat.drewN)) rfl | exact sat.rd 1 (by repeat (with_reducible first | exact K.out | apply sat.alloc_any | apply sat.drew | apply sat.drewN)) rfl | exact sat.rd 2 (by repeat (with_reducible first | exact K.out | apply sat.alloc_any | apply sat.drew | apply sat.drewN)) rfl | exact sat.rd 3 (by repeat (with_reducible first | exact K.out | apply sat.alloc_any | apply sat.drew | apply sat.drewN)) rfl | exact sat.rd 4 (by repeat (with_reducible first | exact K.out | apply sat.alloc_any | apply sat.drew | apply sat.drewN)) rfl)) ?_; clear hkC kC hHeld; intro hHeld
  (try simp only [Act.put, p0, p1, p2])
  refine wpAnyH_ready (rs := [9]) (by kernel_rfl) (by simp) ?_
  refine AllReadyH.cons (o := _) rfl (fun kC hkC => ?_) AllReadyH.nil
  (first | (go_at_call 18; (with_reducible refine ((CN _).out).mono ?_); rintro e w1 ⟨rfl, hb⟩; have K1 := sat.grown (show sat _ _ _ from by first | exact K.out | exact K.out.drew) hb; clear hb; have K2 := Lib.hid K1; clear K1 K; have K := K2; clear K2) | (go_at_call 17; (with_reducible refine ((MN _ _ (show sat E _ _ from by first | exact K.out | exact K.out.drew)).out).mono ?_); rintro e w1 ⟨bm, rfl, K1⟩; have K2 := Lib.hid K1; clear K1 K; have K := K2; clear K2) | (refine rg_makeP (E := E) (d := some 13) 59 8 (.pointer none) Tryz.underlying57 ptrInfo (by kernel_rfl) rfl rfl (by first | exact K.out | exact K.out.drew) rfl rfl lz.out lz.out (by omega) (by omega) ?_; intro gt w1 K1; have K2 := Lib.hid K1; clear K1 K; have K := K2; clear K2) | (refine rg_makeP (E := E) (d := some 16) 3 8 (.int .i64 0) Tryz.underlying58 intInfoY (by kernel_rfl) rfl rfl (by first | exact K.out | exact K.out.drew) rfl rfl lz.out lz.out (by omega) (by omega) ?_; intro gm w1 K1; have K2 := Lib.hid K1; clear K1 K; have K := K2; clear K2))
  refine shown hkC _ _ (by (try dsimp only); (first | exact sat.rd 0 (by repeat (with_reducible first | exact K.out | apply sat.alloc_any | apply sat.drew | apply sat.drewN)) rfl | exact sat.rd 1 (by repeat (with_reducible first | exact K.out | apply sat.alloc_any | apply sat.drew | apply sat.drewN)) rfl | exact sat.rd 2 (by repeat (with_reducible first | exact K.out | apply sat.alloc_any | apply sat.drew | apply sat.drewN)) rfl | exact sat.rd 3 (by repeat (with_reducible first | exact K.out | apply sat.alloc_any | apply sat.drew | apply sat.drewN)) rfl | exact sat.rd 4 (by repeat (with_reducible first | exact K.out | apply sat.alloc_any | apply sat.drew | apply sat.drewN)) rfl)) ?_; clear hkC kC hHeld; intro hHeld
  (try simp only [Act.put, p0, p1, p2])
  refine tk 10 (some 17) ?_
  (try simp only [Act.put, p0, p1, p2])
  refine wpAnyH_ready (rs := [11]) (by kernel_rfl) (by simp) ?_
  refine AllReadyH.cons (o := _) rfl (fun kC hkC => ?_) AllReadyH.nil
  (refine rg_box (E := E) (d := some 18) (by kernel_rfl) rfl rfl (by first | exact K.out | exact K.out.drew) rfl rfl (fun _ => rfl) ?_; intro gx w1 K1; have K2 := Lib.hid K1; clear K1 K; have K := K2; clear K2)
  refine shown hkC _ _ (by (try dsimp only); (first | exact sat.rd 0 (by repeat (with_reducible first | exact K.out | apply sat.alloc_any | apply sat.drew | apply sat.drewN)) rfl | exact sat.rd 1 (by repeat (with_reducible first | exact K.out | apply sat.alloc_any | apply sat.drew | apply sat.drewN)) rfl | exact sat.rd 2 (by repeat (with_reducible first | exact K.out | apply sat.alloc_any | apply sat.drew | apply sat.drewN)) rfl | exact sat.rd 3 (by repeat (with_reducible first | exact K.out | apply sat.alloc_any | apply sat.drew | apply sat.drewN)) rfl | exact sat.rd 4 (by repeat (with_reducible first | exact K.out | apply sat.alloc_any | apply sat.drew | apply sat.drewN)) rfl)) ?_; clear hkC kC hHeld; intro hHeld
  (try simp only [Act.put, p0, p1, p2])
  refine tk 12 (some 2) ?_
  (try simp only [Act.put, p0, p1, p2])
  refine tk 13 (some 3) ?_
  (try simp only [Act.put, p0, p1, p2])
  have K1 := K.out; have K2 := Lib.hid K1; clear K1 K; (try clear a0); (try clear l0); (try clear f0); (try clear a1); (try clear l1); (try clear f1); (try clear a2); (try clear l2); (try clear f2); (try clear a3); (try clear l3); (try clear f3); (try clear a4); (try clear l4); (try clear f4); (try clear a5); (try clear l5); (try clear f5); have K := K2; clear K2; (try have a0 := K.out.rd 0 rfl); (try have l0 := K.out.ltp 0 rfl); (try have f0 := K.out.fr 0 rfl); (try have a1 := K.out.rd 1 rfl); (try have l1 := K.out.ltp 1 rfl); (try have f1 := K.out.fr 1 rfl); (try have a2 := K.out.rd 2 rfl); (try have l2 := K.out.ltp 2 rfl); (try have f2 := K.out.fr 2 rfl); (try have a3 := K.out.rd 3 rfl); (try have l3 := K.out.ltp 3 rfl); (try have f3 := K.out.fr 3 rfl)
  refine wpAnyH_done (by kernel_rfl) (NoPanic.normal ?_) _
  rotate_left
  refine AllReadyH.cons (o := _) rfl (fun kC hkC => ?_) ?_
  (first | (go_at_call 18; (with_reducible refine ((CN _).out).mono ?_); rintro e w1 ⟨rfl, hb⟩; have K1 := sat.grown (show sat _ _ _ from by first | exact K.out | exact K.out.drew) hb; clear hb; have K2 := Lib.hid K1; clear K1 K; have K := K2; clear K2) | (go_at_call 17; (with_reducible refine ((MN _ _ (show sat E _ _ from by first | exact K.out | exact K.out.drew)).out).mono ?_); rintro e w1 ⟨bm, rfl, K1⟩; have K2 := Lib.hid K1; clear K1 K; have K := K2; clear K2) | (refine rg_makeP (E := E) (d := some 13) 59 8 (.pointer none) Tryz.underlying57 ptrInfo (by kernel_rfl) rfl rfl (by first | exact K.out | exact K.out.drew) rfl rfl lz.out lz.out (by omega) (by omega) ?_; intro gt w1 K1; have K2 := Lib.hid K1; clear K1 K; have K := K2; clear K2) | (refine rg_makeP (E := E) (d := some 16) 3 8 (.int .i64 0) Tryz.underlying58 intInfoY (by kernel_rfl) rfl rfl (by first | exact K.out | exact K.out.drew) rfl rfl lz.out lz.out (by omega) (by omega) ?_; intro gm w1 K1; have K2 := Lib.hid K1; clear K1 K; have K := K2; clear K2))
  refine shown hkC _ _ (by (try dsimp only); (first | exact sat.rd 0 (by repeat (with_reducible first | exact K.out | apply sat.alloc_any | apply sat.drew | apply sat.drewN)) rfl | exact sat.rd 1 (by repeat (with_reducible first | exact K.out | apply sat.alloc_any | apply sat.drew | apply sat.drewN)) rfl | exact sat.rd 2 (by repeat (with_reducible first | exact K.out | apply sat.alloc_any | apply sat.drew | apply sat.drewN)) rfl | exact sat.rd 3 (by repeat (with_reducible first | exact K.out | apply sat.alloc_any | apply sat.drew | apply sat.drewN)) rfl | exact sat.rd 4 (by repeat (with_reducible first | exact K.out | apply sat.alloc_any | apply sat.drew | apply sat.drewN)) rfl)) ?_; clear hkC kC hHeld; intro hHeld
  (try simp only [Act.put, p0, p1, p2])
  refine wpAnyH_ready (rs := [3]) (by kernel_rfl) (by simp) ?_
  refine AllReadyH.cons (o := _) rfl (fun kC hkC => ?_) AllReadyH.nil
  go_simp
  (first | (go_at_call 18; (with_reducible refine ((CN _).out).mono ?_); rintro e w1 ⟨rfl, hb⟩; have K1 := sat.grown (show sat _ _ _ from by first | exact K.out | exact K.out.drew) hb; clear hb; have K2 := Lib.hid K1; clear K1 K; have K := K2; clear K2) | (go_at_call 17; (with_reducible refine ((MN _ _ (show sat E _ _ from by first | exact K.out | exact K.out.drew)).out).mono ?_); rintro e w1 ⟨bm, rfl, K1⟩; have K2 := Lib.hid K1; clear K1 K; have K := K2; clear K2) | (refine rg_makeP (E := E) (d := some 13) 59 8 (.pointer none) Tryz.underlying57 ptrInfo (by kernel_rfl) rfl rfl (by first | exact K.out | exact K.out.drew) rfl rfl lz.out lz.out (by omega) (by omega) ?_; intro gt w1 K1; have K2 := Lib.hid K1; clear K1 K; have K := K2; clear K2) | (refine rg_makeP (E := E) (d := some 16) 3 8 (.int .i64 0) Tryz.underlying58 intInfoY (by kernel_rfl) rfl rfl (by first | exact K.out | exact K.out.drew) rfl rfl lz.out lz.out (by omega) (by omega) ?_; intro gm w1 K1; have K2 := Lib.hid K1; clear K1 K; have K := K2; clear K2))
  refine shown hkC _ _ (by (try dsimp only); (first | exact sat.rd 0 (by repeat (with_reducible first | exact K.out | apply sat.alloc_any | apply sat.drew | apply sat.drewN)) rfl | exact sat.rd 1 (by repeat (with_reducible first | exact K.out | apply sat.alloc_any | apply sat.drew | apply sat.drewN)) rfl | exact sat.rd 2 (by repeat (with_reducible first | exact K.out | apply sat.alloc_any | apply sat.drew | apply sat.drewN)) rfl | exact sat.rd 3 (by repeat (with_reducible first | exact K.out | apply sat.alloc_any | apply sat.drew | apply sat.drewN)) rfl | exact sat.rd 4 (by repeat (with_reducible first | exact K.out | apply sat.alloc_any | apply sat.drew | apply sat.drewN)) rfl)) ?_; clear hkC kC hHeld; intro hHeld
  (try simp only [Act.put, p0, p1, p2])
  refine tk 10 (some 17) ?_
  (try simp only [Act.put, p0, p1, p2])
  refine wpAnyH_ready (rs := [11]) (by kernel_rfl) (by simp) ?_
  refine AllReadyH.cons (o := _) rfl (fun kC hkC => ?_) AllReadyH.nil
  (refine rg_box (E := E) (d := some 18) (by kernel_rfl) rfl rfl (by first | exact K.out | exact K.out.drew) rfl rfl (fun _ => rfl) ?_; intro gx w1 K1; have K2 := Lib.hid K1; clear K1 K; have K := K2; clear K2)
  refine shown hkC _ _ (by (try dsimp only); (first | exact sat.rd 0 (by repeat (with_reducible first | exact K.out | apply sat.alloc_any | apply sat.drew | apply sat.drewN)) rfl | exact sat.rd 1 (by repeat (with_reducible first | exact K.out | apply sat.alloc_any | apply sat.drew | apply sat.drewN)) rfl | exact sat.rd 2 (by repeat (with_reducible first | exact K.out | apply sat.alloc_any | apply sat.drew | apply sat.drewN)) rfl | exact sat.rd 3 (by repeat (with_reducible first | exact K.out | apply sat.alloc_any | apply sat.drew | apply sat.drewN)) rfl | exact sat.rd 4 (by repeat (with_reducible first | exact K.out | apply sat.alloc_any | apply sat.drew | apply sat.drewN)) rfl)) ?_; clear hkC kC hHeld; intro hHeld
  (try simp only [Act.put, p0, p1, p2])
  refine tk 12 (some 2) ?_
  (try simp only [Act.put, p0, p1, p2])
  refine tk 13 (some 3) ?_
  (try simp only [Act.put, p0, p1, p2])
  have K1 := K.out; have K2 := Lib.hid K1; clear K1 K; (try clear a0); (try clear l0); (try clear f0); (try clear a1); (try clear l1); (try clear f1); (try clear a2); (try clear l2); (try clear f2); (try clear a3); (try clear l3); (try clear f3); (try clear a4); (try clear l4); (try clear f4); (try clear a5); (try clear l5); (try clear f5); have K := K2; clear K2; (try have a0 := K.out.rd 0 rfl); (try have l0 := K.out.ltp 0 rfl); (try have f0 := K.out.fr 0 rfl); (try have a1 := K.out.rd 1 rfl); (try have l1 := K.out.ltp 1 rfl); (try have f1 := K.out.fr 1 rfl); (try have a2 := K.out.rd 2 rfl); (try have l2 := K.out.ltp 2 rfl); (try have f2 := K.out.fr 2 rfl); (try have a3 := K.out.rd 3 rfl); (try have l3 := K.out.ltp 3 rfl); (try have f3 := K.out.fr 3 rfl)
  refine wpAnyH_done (by kernel_rfl) (NoPanic.normal ?_) _
  rotate_left
  exact AllReadyH.nil
  refine AllReadyH.cons (o := _) rfl (fun kC hkC => ?_) ?_
  (first | (go_at_call 18; (with_reducible refine ((CN _).out).mono ?_); rintro e w1 ⟨rfl, hb⟩; have K1 := sat.grown (show sat _ _ _ from by first | exact K.out | exact K.out.drew) hb; clear hb; have K2 := Lib.hid K1; clear K1 K; have K := K2; clear K2) | (go_at_call 17; (with_reducible refine ((MN _ _ (show sat E _ _ from by first | exact K.out | exact K.out.drew)).out).mono ?_); rintro e w1 ⟨bm, rfl, K1⟩; have K2 := Lib.hid K1; clear K1 K; have K := K2; clear K2) | (refine rg_makeP (E := E) (d := some 13) 59 8 (.pointer none) Tryz.underlying57 ptrInfo (by kernel_rfl) rfl rfl (by first | exact K.out | exact K.out.drew) rfl rfl lz.out lz.out (by omega) (by omega) ?_; intro gt w1 K1; have K2 := Lib.hid K1; clear K1 K; have K := K2; clear K2) | (refine rg_makeP (E := E) (d := some 16) 3 8 (.int .i64 0) Tryz.underlying58 intInfoY (by kernel_rfl) rfl rfl (by first | exact K.out | exact K.out.drew) rfl rfl lz.out lz.out (by omega) (by omega) ?_; intro gm w1 K1; have K2 := Lib.hid K1; clear K1 K; have K := K2; clear K2))
  refine shown hkC _ _ (by (try dsimp only); (first | exact sat.rd 0 (by repeat (with_reducible first | exact K.out | apply sat.alloc_any | apply sat.drew | apply sat.drewN)) rfl | exact sat.rd 1 (by repeat (with_reducible first | exact K.out | apply sat.alloc_any | apply sat.drew | apply sat.drewN)) rfl | exact sat.rd 2 (by repeat (with_reducible first | exact K.out | apply sat.alloc_any | apply sat.drew | apply sat.drewN)) rfl | exact sat.rd 3 (by repeat (with_reducible first | exact K.out | apply sat.alloc_any | apply sat.drew | apply sat.drewN)) rfl | exact sat.rd 4 (by repeat (with_reducible first | exact K.out | apply sat.alloc_any | apply sat.drew | apply sat.drewN)) rfl)) ?_; clear hkC kC hHeld; intro hHeld
  (try simp only [Act.put, p0, p1, p2])
  refine wpAnyH_ready (rs := [2]) (by kernel_rfl) (by simp) ?_
  refine AllReadyH.cons (o := _) rfl (fun kC hkC => ?_) AllReadyH.nil
  go_simp
  (first | (go_at_call 18; (with_reducible refine ((CN _).out).mono ?_); rintro e w1 ⟨rfl, hb⟩; have K1 := sat.grown (show sat _ _ _ from by first | exact K.out | exact K.out.drew) hb; clear hb; have K2 := Lib.hid K1; clear K1 K; have K := K2; clear K2) | (go_at_call 17; (with_reducible refine ((MN _ _ (show sat E _ _ from by first | exact K.out | exact K.out.drew)).out).mono ?_); rintro e w1 ⟨bm, rfl, K1⟩; have K2 := Lib.hid K1; clear K1 K; have K := K2; clear K2) | (refine rg_makeP (E := E) (d := some 13) 59 8 (.pointer none) Tryz.underlying57 ptrInfo (by kernel_rfl) rfl rfl (by first | exact K.out | exact K.out.drew) rfl rfl lz.out lz.out (by omega) (by omega) ?_; intro gt w1 K1; have K2 := Lib.hid K1; clear K1 K; have K := K2; clear K2) | (refine rg_makeP (E := E) (d := some 16) 3 8 (.int .i64 0) Tryz.underlying58 intInfoY (by kernel_rfl) rfl rfl (by first | exact K.out | exact K.out.drew) rfl rfl lz.out lz.out (by omega) (by omega) ?_; intro gm w1 K1; have K2 := Lib.hid K1; clear K1 K; have K := K2; clear K2))
  refine shown hkC _ _ (by (try dsimp only); (first | exact sat.rd 0 (by repeat (with_reducible first | exact K.out | apply sat.alloc_any | apply sat.drew | apply sat.drewN)) rfl | exact sat.rd 1 (by repeat (with_reducible first | exact K.out | apply sat.alloc_any | apply sat.drew | apply sat.drewN)) rfl | exact sat.rd 2 (by repeat (with_reducible first | exact K.out | apply sat.alloc_any | apply sat.drew | apply sat.drewN)) rfl | exact sat.rd 3 (by repeat (with_reducible first | exact K.out | apply sat.alloc_any | apply sat.drew | apply sat.drewN)) rfl | exact sat.rd 4 (by repeat (with_reducible first | exact K.out | apply sat.alloc_any | apply sat.drew | apply sat.drewN)) rfl)) ?_; clear hkC kC hHeld; intro hHeld
  (try simp only [Act.put, p0, p1, p2])
  refine wpAnyH_ready (rs := [3]) (by kernel_rfl) (by simp) ?_
  refine AllReadyH.cons (o := _) rfl (fun kC hkC => ?_) AllReadyH.nil
  go_simp
  (first | (go_at_call 18; (with_reducible refine ((CN _).out).mono ?_); rintro e w1 ⟨rfl, hb⟩; have K1 := sat.grown (show sat _ _ _ from by first | exact K.out | exact K.out.drew) hb; clear hb; have K2 := Lib.hid K1; clear K1 K; have K := K2; clear K2) | (go_at_call 17; (with_reducible refine ((MN _ _ (show sat E _ _ from by first | exact K.out | exact K.out.drew)).out).mono ?_); rintro e w1 ⟨bm, rfl, K1⟩; have K2 := Lib.hid K1; clear K1 K; have K := K2; clear K2) | (refine rg_makeP (E := E) (d := some 13) 59 8 (.pointer none) Tryz.underlying57 ptrInfo (by kernel_rfl) rfl rfl (by first | exact K.out | exact K.out.drew) rfl rfl lz.out lz.out (by omega) (by omega) ?_; intro gt w1 K1; have K2 := Lib.hid K1; clear K1 K; have K := K2; clear K2) | (refine rg_makeP (E := E) (d := some 16) 3 8 (.int .i64 0) Tryz.underlying58 intInfoY (by kernel_rfl) rfl rfl (by first | exact K.out | exact K.out.drew) rfl rfl lz.out lz.out (by omega) (by omega) ?_; intro gm w1 K1; have K2 := Lib.hid K1; clear K1 K; have K := K2; clear K2))
  refine shown hkC _ _ (by (try dsimp only); (first | exact sat.rd 0 (by repeat (with_reducible first | exact K.out | apply sat.alloc_any | apply sat.drew | apply sat.drewN)) rfl | exact sat.rd 1 (by repeat (with_reducible first | exact K.out | apply sat.alloc_any | apply sat.drew | apply sat.drewN)) rfl | exact sat.rd 2 (by repeat (with_reducible first | exact K.out | apply sat.alloc_any | apply sat.drew | apply sat.drewN)) rfl | exact sat.rd 3 (by repeat (with_reducible first | exact K.out | apply sat.alloc_any | apply sat.drew | apply sat.drewN)) rfl | exact sat.rd 4 (by repeat (with_reducible first | exact K.out | apply sat.alloc_any | apply sat.drew | apply sat.drewN)) rfl)) ?_; clear hkC kC hHeld; intro hHeld
  (try simp only [Act.put, p0, p1, p2])
  refine tk 10 (some 17) ?_
  (try simp only [Act.put, p0, p1, p2])
  refine wpAnyH_ready (rs := [11]) (by kernel_rfl) (by simp) ?_
  refine AllReadyH.cons (o := _) rfl (fun kC hkC => ?_) AllReadyH.nil
  (refine rg_box (E := E) (d := some 18) (by kernel_rfl) rfl rfl (by first | exact K.out | exact K.out.drew) rfl rfl (fun _ => rfl) ?_; intro gx w1 K1; have K2 := Lib.hid K1; clear K1 K; have K := K2; clear K2)
  refine shown hkC _ _ (by (try dsimp only); (first | exact sat.rd 0 (by repeat (with_reducible first | exact K.out | apply sat.alloc_any | apply sat.drew | apply sat.drewN)) rfl | exact sat.rd 1 (by repeat (with_reducible first | exact K.out | apply sat.alloc_any | apply sat.drew | apply sat.drewN)) rfl | exact sat.rd 2 (by repeat (with_reducible first | exact K.out | apply sat.alloc_any | apply sat.drew | apply sat.drewN)) rfl | exact sat.rd 3 (by repeat (with_reducible first | exact K.out | apply sat.alloc_any | apply sat.drew | apply sat.drewN)) rfl | exact sat.rd 4 (by repeat (with_reducible first | exact K.out | apply sat.alloc_any | apply sat.drew | apply sat.drewN)) rfl)) ?_; clear hkC kC hHeld; intro hHeld
  (try simp only [Act.put, p0, p1, p2])
  refine tk 12 (some 2) ?_
  (try simp only [Act.put, p0, p1, p2])
  refine tk 13 (some 3) ?_
  (try simp only [Act.put, p0, p1, p2])
  have K1 := K.out; have K2 := Lib.hid K1; clear K1 K; (try clear a0); (try clear l0); (try clear f0); (try clear a1); (try clear l1); (try clear f1); (try clear a2); (try clear l2); (try clear f2); (try clear a3); (try clear l3); (try clear f3); (try clear a4); (try clear l4); (try clear f4); (try clear a5); (try clear l5); (try clear f5); have K := K2; clear K2; (try have a0 := K.out.rd 0 rfl); (try have l0 := K.out.ltp 0 rfl); (try have f0 := K.out.fr 0 rfl); (try have a1 := K.out.rd 1 rfl); (try have l1 := K.out.ltp 1 rfl); (try have f1 := K.out.fr 1 rfl); (try have a2 := K.out.rd 2 rfl); (try have l2 := K.out.ltp 2 rfl); (try have f2 := K.out.fr 2 rfl); (try have a3 := K.out.rd 3 rfl); (try have l3 := K.out.ltp 3 rfl); (try have f3 := K.out.fr 3 rfl)
  refine wpAnyH_done (by kernel_rfl) (NoPanic.normal ?_) _
  rotate_left
  exact AllReadyH.nil
  refine AllReadyH.cons (o := _) rfl (fun kC hkC => ?_) ?_
  (first | (go_at_call 18; (with_reducible refine ((CN _).out).mono ?_); rintro e w1 ⟨rfl, hb⟩; have K1 := sat.grown (show sat _ _ _ from by first | exact K.out | exact K.out.drew) hb; clear hb; have K2 := Lib.hid K1; clear K1 K; have K := K2; clear K2) | (go_at_call 17; (with_reducible refine ((MN _ _ (show sat E _ _ from by first | exact K.out | exact K.out.drew)).out).mono ?_); rintro e w1 ⟨bm, rfl, K1⟩; have K2 := Lib.hid K1; clear K1 K; have K := K2; clear K2) | (refine rg_makeP (E := E) (d := some 13) 59 8 (.pointer none) Tryz.underlying57 ptrInfo (by kernel_rfl) rfl rfl (by first | exact K.out | exact K.out.drew) rfl rfl lz.out lz.out (by omega) (by omega) ?_; intro gt w1 K1; have K2 := Lib.hid K1; clear K1 K; have K := K2; clear K2) | (refine rg_makeP (E := E) (d := some 16) 3 8 (.int .i64 0) Tryz.underlying58 intInfoY (by kernel_rfl) rfl rfl (by first | exact K.out | exact K.out.drew) rfl rfl lz.out lz.out (by omega) (by omega) ?_; intro gm w1 K1; have K2 := Lib.hid K1; clear K1 K; have K := K2; clear K2))
  refine shown hkC _ _ (by (try dsimp only); (first | exact sat.rd 0 (by repeat (with_reducible first | exact K.out | apply sat.alloc_any | apply sat.drew | apply sat.drewN)) rfl | exact sat.rd 1 (by repeat (with_reducible first | exact K.out | apply sat.alloc_any | apply sat.drew | apply sat.drewN)) rfl | exact sat.rd 2 (by repeat (with_reducible first | exact K.out | apply sat.alloc_any | apply sat.drew | apply sat.drewN)) rfl | exact sat.rd 3 (by repeat (with_reducible first | exact K.out | apply sat.alloc_any | apply sat.drew | apply sat.drewN)) rfl | exact sat.rd 4 (by repeat (with_reducible first | exact K.out | apply sat.alloc_any | apply sat.drew | apply sat.drewN)) rfl)) ?_; clear hkC kC hHeld; intro hHeld
  (try simp only [Act.put, p0, p1, p2])
  refine wpAnyH_ready (rs := [2, 6]) (by kernel_rfl) (by simp) ?_
  refine AllReadyH.cons (o := _) rfl (fun kC hkC => ?_) ?_
  go_simp
  (first | (go_at_call 18; (with_reducible refine ((CN _).out).mono ?_); rintro e w1 ⟨rfl, hb⟩; have K1 := sat.grown (show sat _ _ _ from by first | exact K.out | exact K.out.drew) hb; clear hb; have K2 := Lib.hid K1; clear K1 K; have K := K2; clear K2) | (go_at_call 17; (with_reducible refine ((MN _ _ (show sat E _ _ from by first | exact K.out | exact K.out.drew)).out).mono ?_); rintro e w1 ⟨bm, rfl, K1⟩; have K2 := Lib.hid K1; clear K1 K; have K := K2; clear K2) | (refine rg_makeP (E := E) (d := some 13) 59 8 (.pointer none) Tryz.underlying57 ptrInfo (by kernel_rfl) rfl rfl (by first | exact K.out | exact K.out.drew) rfl rfl lz.out lz.out (by omega) (by omega) ?_; intro gt w1 K1; have K2 := Lib.hid K1; clear K1 K; have K := K2; clear K2) | (refine rg_makeP (E := E) (d := some 16) 3 8 (.int .i64 0) Tryz.underlying58 intInfoY (by kernel_rfl) rfl rfl (by first | exact K.out | exact K.out.drew) rfl rfl lz.out lz.out (by omega) (by omega) ?_; intro gm w1 K1; have K2 := Lib.hid K1; clear K1 K; have K := K2; clear K2))
  refine shown hkC _ _ (by (try dsimp only); (first | exact sat.rd 0 (by repeat (with_reducible first | exact K.out | apply sat.alloc_any | apply sat.drew | apply sat.drewN)) rfl | exact sat.rd 1 (by repeat (with_reducible first | exact K.out | apply sat.alloc_any | apply sat.drew | apply sat.drewN)) rfl | exact sat.rd 2 (by repeat (with_reducible first | exact K.out | apply sat.alloc_any | apply sat.drew | apply sat.drewN)) rfl | exact sat.rd 3 (by repeat (with_reducible first | exact K.out | apply sat.alloc_any | apply sat.drew | apply sat.drewN)) rfl | exact sat.rd 4 (by repeat (with_reducible first | exact K.out | apply sat.alloc_any | apply sat.drew | apply sat.drewN)) rfl)) ?_; clear hkC kC hHeld; intro hHeld
  (try simp only [Act.put, p0, p1, p2])
  refine wpAnyH_ready (rs := [3, 6]) (by kernel_rfl) (by simp) ?_
  refine AllReadyH.cons (o := _) rfl (fun kC hkC => ?_) ?_
  go_simp
  (first | (go_at_call 18; (with_reducible refine ((CN _).out).mono ?_); rintro e w1 ⟨rfl, hb⟩; have K1 := sat.grown (show sat _ _ _ from by first | exact K.out | exact K.out.drew) hb; clear hb; have K2 := Lib.hid K1; clear K1 K; have K := K2; clear K2) | (go_at_call 17; (with_reducible refine ((MN _ _ (show sat E _ _ from by first | exact K.out | exact K.out.drew)).out).mono ?_); rintro e w1 ⟨bm, rfl, K1⟩; have K2 := Lib.hid K1; clear K1 K; have K := K2; clear K2) | (refine rg_makeP (E := E) (d := some 13) 59 8 (.pointer none) Tryz.underlying57 ptrInfo (by kernel_rfl) rfl rfl (by first | exact K.out | exact K.out.drew) rfl rfl lz.out lz.out (by omega) (by omega) ?_; intro gt w1 K1; have K2 := Lib.hid K1; clear K1 K; have K := K2; clear K2) | (refine rg_makeP (E := E) (d := some 16) 3 8 (.int .i64 0) Tryz.underlying58 intInfoY (by kernel_rfl) rfl rfl (by first | exact K.out | exact K.out.drew) rfl rfl lz.out lz.out (by omega) (by omega) ?_; intro gm w1 K1; have K2 := Lib.hid K1; clear K1 K; have K := K2; clear K2))
  refine shown hkC _ _ (by (try dsimp only); (first | exact sat.rd 0 (by repeat (with_reducible first | exact K.out | apply sat.alloc_any | apply sat.drew | apply sat.drewN)) rfl | exact sat.rd 1 (by repeat (with_reducible first | exact K.out | apply sat.alloc_any | apply sat.drew | apply sat.drewN)) rfl | exact sat.rd 2 (by repeat (with_reducible first | exact K.out | apply sat.alloc_any | apply sat.drew | apply sat.drewN)) rfl | exact sat.rd 3 (by repeat (with_reducible first | exact K.out | apply sat.alloc_any | apply sat.drew | apply sat.drewN)) rfl | exact sat.rd 4 (by repeat (with_reducible first | exact K.out | apply sat.alloc_any | apply sat.drew | apply sat.drewN)) rfl)) ?_; clear hkC kC hHeld; intro hHeld
  (try simp only [Act.put, p0, p1, p2])
  refine wpAnyH_ready (rs := [6]) (by kernel_rfl) (by simp) ?_
  refine AllReadyH.cons (o := _) rfl (fun kC hkC => ?_) AllReadyH.nil
  (first | (go_at_call 18; (with_reducible refine ((CN _).out).mono ?_); rintro e w1 ⟨rfl, hb⟩; have K1 := sat.grown (show sat _ _ _ from by first | exact K.out | exact K.out.drew) hb; clear hb; have K2 := Lib.hid K1; clear K1 K; have K := K2; clear K2) | (go_at_call 17; (with_reducible refine ((MN _ _ (show sat E _ _ from by first | exact K.out | exact K.out.drew)).out).mono ?_); rintro e w1 ⟨bm, rfl, K1⟩; have K2 := Lib.hid K1; clear K1 K; have K := K2; clear K2) | (refine rg_makeP (E := E) (d := some 13) 59 8 (.pointer none) Tryz.underlying57 ptrInfo (by kernel_rfl) rfl rfl (by first | exact K.out | exact K.out.drew) rfl rfl lz.out lz.out (by omega) (by omega) ?_; intro gt w1 K1; have K2 := Lib.hid K1; clear K1 K; have K := K2; clear K2) | (refine rg_makeP (E := E) (d := some 16) 3 8 (.int .i64 0) Tryz.underlying58 intInfoY (by kernel_rfl) rfl rfl (by first | exact K.out | exact K.out.drew) rfl rfl lz.out lz.out (by omega) (by omega) ?_; intro gm w1 K1; have K2 := Lib.hid K1; clear K1 K; have K := K2; clear K2))
  refine shown hkC _ _ (by (try dsimp only); (first | exact sat.rd 0 (by repeat (with_reducible first | exact K.out | apply sat.alloc_any | apply sat.drew | apply sat.drewN)) rfl | exact sat.rd 1 (by repeat (with_reducible first | exact K.out | apply sat.alloc_any | apply sat.drew | apply sat.drewN)) rfl | exact sat.rd 2 (by repeat (with_reducible first | exact K.out | apply sat.alloc_any | apply sat.drew | apply sat.drewN)) rfl | exact sat.rd 3 (by repeat (with_reducible first | exact K.out | apply sat.alloc_any | apply sat.drew | apply sat.drewN)) rfl | exact sat.rd 4 (by repeat (with_reducible first | exact K.out | apply sat.alloc_any | apply sat.drew | apply sat.drewN)) rfl)) ?_; clear hkC kC hHeld; intro hHeld
  (try simp only [Act.put, p0, p1, p2])
  refine tk 10 (some 17) ?_
  (try simp only [Act.put, p0, p1, p2])
  refine wpAnyH_ready (rs := [11]) (by kernel_rfl) (by simp) ?_
  refine AllReadyH.cons (o := _) rfl (fun kC hkC => ?_) AllReadyH.nil
  (refine rg_box (E := E) (d := some 18) (by kernel_rfl) rfl rfl (by first | exact K.out | exact K.out.drew) rfl rfl (fun _ => rfl) ?_; intro gx w1 K1; have K2 := Lib.hid K1; clear K1 K; have K := K2; clear K2)
  refine shown hkC _ _ (by (try dsimp only); (first | exact sat.rd 0 (by repeat (with_reducible first | exact K.out | apply sat.alloc_any | apply sat.drew | apply sat.drewN)) rfl | exact sat.rd 1 (by repeat (with_reducible first | exact K.out | apply sat.alloc_any | apply sat.drew | apply sat.drewN)) rfl | exact sat.rd 2 (by repeat (with_reducible first | exact K.out | apply sat.alloc_any | apply sat.drew | apply sat.drewN)) rfl | exact sat.rd 3 (by repeat (with_reducible first | exact K.out | apply sat.alloc_any | apply sat.drew | apply sat.drewN)) rfl | exact sat.rd 4 (by repeat (with_reducible first | exact K.out | apply sat.alloc_any | apply sat.drew | apply sat.drewN)) rfl)) ?_; clear hkC kC hHeld; intro hHeld
  (try simp only [Act.put, p0, p1, p2])
  refine tk 12 (some 2) ?_
  (try simp only [Act.put, p0, p1, p2])
  refine tk 13 (some 3) ?_
  (try simp only [Act.put, p0, p1, p2])
  have K1 := K.out; have K2 := Lib.hid K1; clear K1 K; (try clear a0); (try clear l0); (try clear f0); (try clear a1); (try clear l1); (try clear f1); (try clear a2); (try clear l2); (try clear f2); (try clear a3); (try clear l3); (try clear f3); (try clear a4); (try clear l4); (try clear f4); (try clear a5); (try clear l5); (try clear f5); have K := K2; clear K2; (try have a0 := K.out.rd 0 rfl); (try have l0 := K.out.ltp 0 rfl); (try have f0 := K.out.fr 0 rfl); (try have a1 := K.out.rd 1 rfl); (try have l1 := K.out.ltp 1 rfl); (try have f1 := K.out.fr 1 rfl); (try have a2 := K.out.rd 2 rfl); (try have l2 := K.out.ltp 2 rfl); (try have f2 := K.out.fr 2 rfl); (try have a3 := K.out.rd 3 rfl); (try have l3 := K.out.ltp 3 rfl); (try have f3 := K.out.fr 3 rfl)
  refine wpAnyH_done (by kernel_rfl) (NoPanic.normal ?_) _
  rotate_left
  refine AllReadyH.cons (o := _) rfl (fun kC hkC => ?_) ?_
  (first | (go_at_call 18; (with_reducible refine ((CN _).out).mono ?_); rintro e w1 ⟨rfl, hb⟩; have K1 := sat.grown (show sat _ _ _ from by first | exact K.out | exact K.out.drew) hb; clear hb; have K2 := Lib.hid K1; clear K1 K; have K := K2; clear K2) | (go_at_call 17; (with_reducible refine ((MN _ _ (show sat E _ _ from by first | exact K.out | exact K.out.drew)).out).mono ?_); rintro e w1 ⟨bm, rfl, K1⟩; have K2 := Lib.hid K1; clear K1 K; have K := K2; clear K2) | (refine rg_makeP (E := E) (d := some 13) 59 8 (.pointer none) Tryz.underlying57 ptrInfo (by kernel_rfl) rfl rfl (by first | exact K.out | exact K.out.drew) rfl rfl lz.out lz.out (by omega) (by omega) ?_; intro gt w1 K1; have K2 := Lib.hid K1; clear K1 K; have K := K2; clear K2) | (refine rg_makeP (E := E) (d := some 16) 3 8 (.int .i64 0) Tryz.underlying58 intInfoY (by kernel_rfl) rfl rfl (by first | exact K.out | exact K.out.drew) rfl rfl lz.out lz.out (by omega) (by omega) ?_; intro gm w1 K1; have K2 := Lib.hid K1; clear K1 K; have K := K2; clear K2))
  refine shown hkC _ _ (by (try dsimp only); (first | exact sat.rd 0 (by repeat (with_reducible first | exact K.out | apply sat.alloc_any | apply sat.drew | apply sat.drewN)) rfl | exact sat.rd 1 (by repeat (with_reducible first | exact K.out | apply sat.alloc_any | apply sat.drew | apply sat.drewN)) rfl | exact sat.rd 2 (by repeat (with_reducible first | exact K.out | apply sat.alloc_any | apply sat.drew | apply sat.drewN)) rfl | exact sat.rd 3 (by repeat (with_reducible first | exact K.out | apply sat.alloc_any | apply sat.drew | apply sat.drewN)) rfl | exact sat.rd 4 (by repeat (with_reducible first | exact K.out | apply sat.alloc_any | apply sat.drew | apply sat.drewN)) rfl)) ?_; clear hkC kC hHeld; intro hHeld
  (try simp only [Act.put, p0, p1, p2])
  refine wpAnyH_ready (rs := [3]) (by kernel_rfl) (by simp) ?_
  refine AllReadyH.cons (o := _) rfl (fun kC hkC => ?_) AllReadyH.nil
  go_simp
  (first | (go_at_call 18; (with_reducible refine ((CN _).out).mono ?_); rintro e w1 ⟨rfl, hb⟩; have K1 := sat.grown (show sat _ _ _ from by first | exact K.out | exact K.out.drew) hb; clear hb; have K2 := Lib.hid K1; clear K1 K; have K := K2; clear K2) | (go_at_call 17; (with_reducible refine ((MN _ _ (show sat E _ _ from by first | exact K.out | exact K.out.drew)).out).mono ?_); rintro e w1 ⟨bm, rfl, K1⟩; have K2 := Lib.hid K1; clear K1 K; have K := K2; clear K2) | (refine rg_makeP (E := E) (d := some 13) 59 8 (.pointer none) Tryz.underlying57 ptrInfo (by kernel_rfl) rfl rfl (by first | exact K.out | exact K.out.drew) rfl rfl lz.out lz.out (by omega) (by omega) ?_; intro gt w1 K1; have K2 := Lib.hid K1; clear K1 K; have K := K2; clear K2) | (refine rg_makeP (E := E) (d := some 16) 3 8 (.int .i64 0) Tryz.underlying58 intInfoY (by kernel_rfl) rfl rfl (by first | exact K.out | exact K.out.drew) rfl rfl lz.out lz.out (by omega) (by omega) ?_; intro gm w1 K1; have K2 := Lib.hid K1; clear K1 K; have K := K2; clear K2))
  refine shown hkC _ _ (by (try dsimp only); (first | exact sat.rd 0 (by repeat (with_reducible first | exact K.out | apply sat.alloc_any | apply sat.drew | apply sat.drewN)) rfl | exact sat.rd 1 (by repeat (with_reducible first | exact K.out | apply sat.alloc_any | apply sat.drew | apply sat.drewN)) rfl | exact sat.rd 2 (by repeat (with_reducible first | exact K.out | apply sat.alloc_any | apply sat.drew | apply sat.drewN)) rfl | exact sat.rd 3 (by repeat (with_reducible first | exact K.out | apply sat.alloc_any | apply sat.drew | apply sat.drewN)) rfl | exact sat.rd 4 (by repeat (with_reducible first | exact K.out | apply sat.alloc_any | apply sat.drew | apply sat.drewN)) rfl)) ?_; clear hkC kC hHeld; intro hHeld
  (try simp only [Act.put, p0, p1, p2])
  refine tk 10 (some 17) ?_
  (try simp only [Act.put, p0, p1, p2])
  refine wpAnyH_ready (rs := [11]) (by kernel_rfl) (by simp) ?_
  refine AllReadyH.cons (o := _) rfl (fun kC hkC => ?_) AllReadyH.nil
  (refine rg_box (E := E) (d := some 18) (by kernel_rfl) rfl rfl (by first | exact K.out | exact K.out.drew) rfl rfl (fun _ => rfl) ?_; intro gx w1 K1; have K2 := Lib.hid K1; clear K1 K; have K := K2; clear K2)
  refine shown hkC _ _ (by (try dsimp only); (first | exact sat.rd 0 (by repeat (with_reducible first | exact K.out | apply sat.alloc_any | apply sat.drew | apply sat.drewN)) rfl | exact sat.rd 1 (by repeat (with_reducible first | exact K.out | apply sat.alloc_any | apply sat.drew | apply sat.drewN)) rfl | exact sat.rd 2 (by repeat (with_reducible first | exact K.out | apply sat.alloc_any | apply sat.drew | apply sat.drewN)) rfl | exact sat.rd 3 (by repeat (with_reducible first | exact K.out | apply sat.alloc_any | apply sat.drew | apply sat.drewN)) rfl | exact sat.rd 4 (by repeat (with_reducible first | exact K.out | apply sat.alloc_any | apply sat.drew | apply sat.drewN)) rfl)) ?_; clear hkC kC hHeld; intro hHeld
  (try simp only [Act.put, p0, p1, p2])
  refine tk 12 (some 2) ?_
  (try simp only [Act.put, p0, p1, p2])
  refine tk 13 (some 3) ?_
  (try simp only [Act.put, p0, p1, p2])
  have K1 := K.out; have K2 := Lib.hid K1; clear K1 K; (try clear a0); (try clear l0); (try clear f0); (try clear a1); (try clear l1); (try clear f1); (try clear a2); (try clear l2); (try clear f2); (try clear a3); (try clear l3); (try clear f3); (try clear a4); (try clear l4); (try clear f4); (try clear a5); (try clear l5); (try clear f5); have K := K2; clear K2; (try have a0 := K.out.rd 0 rfl); (try have l0 := K.out.ltp 0 rfl); (try have f0 := K.out.fr 0 rfl); (try have a1 := K.out.rd 1 rfl); (try have l1 := K.out.ltp 1 rfl); (try have f1 := K.out.fr 1 rfl); (try have a2 := K.out.rd 2 rfl); (try have l2 := K.out.ltp 2 rfl); (try have f2 := K.out.fr 2 rfl); (try have a3 := K.out.rd 3 rfl); (try have l3 := K.out.ltp 3 rfl); (try have f3 := K.out.fr 3 rfl)
  refine wpAnyH_done (by kernel_rfl) (NoPanic.normal ?_) _
  rotate_left
  exact AllReadyH.nil
  refine AllReadyH.cons (o := _) rfl (fun kC hkC => ?_) ?_
  (first | (go_at_call 18; (with_reducible refine ((CN _).out).mono ?_); rintro e w1 ⟨rfl, hb⟩; have K1 := sat.grown (show sat _ _ _ from by first | exact K.out | exact K.out.drew) hb; clear hb; have K2 := Lib.hid K1; clear K1 K; have K := K2; clear K2) | (go_at_call 17; (with_reducible refine ((MN _ _ (show sat E _ _ from by first | exact K.out | exact K.out.drew)).out).mono ?_); rintro e w1 ⟨bm, rfl, K1⟩; have K2 := Lib.hid K1; clear K1 K; have K := K2; clear K2) | (refine rg_makeP (E := E) (d := some 13) 59 8 (.pointer none) Tryz.underlying57 ptrInfo (by kernel_rfl) rfl rfl (by first | exact K.out | exact K.out.drew) rfl rfl lz.out lz.out (by omega) (by omega) ?_; intro gt w1 K1; have K2 := Lib.hid K1; clear K1 K; have K := K2; clear K2) | (refine rg_makeP (E := E) (d := some 16) 3 8 (.int .i64 0) Tryz.underlying58 intInfoY (by kernel_rfl) rfl rfl (by first | exact K.out | exact K.out.drew) rfl rfl lz.out lz.out (by omega) (by omega) ?_; intro gm w1 K1; have K2 := Lib.hid K1; clear K1 K; have K := K2; clear K2))
  refine shown hkC _ _ (by (try dsimp only); (first | exact sat.rd 0 (by repeat (with_reducible first | exact K.out | apply sat.alloc_any | apply sat.drew | apply sat.drewN)) rfl | exact sat.rd 1 (by repeat (with_reducible first | exact K.out | apply sat.alloc_any | apply sat.drew | apply sat.drewN)) rfl | exact sat.rd 2 (by repeat (with_reducible first | exact K.out | apply sat.alloc_any | apply sat.drew | apply sat.drewN)) rfl | exact sat.rd 3 (by repeat (with_reducible first | exact K.out | apply sat.alloc_any | apply sat.drew | apply sat.drewN)) rfl | exact sat.rd 4 (by repeat (with_reducible first | exact K.out | apply sat.alloc_any | apply sat.drew | apply sat.drewN)) rfl)) ?_; clear hkC kC hHeld; intro hHeld
  (try simp only [Act.put, p0, p1, p2])
  refine wpAnyH_ready (rs := [2]) (by kernel_rfl) (by simp) ?_
  refine AllReadyH.cons (o := _) rfl (fun kC hkC => ?_) AllReadyH.nil
  go_simp
  (first | (go_at_call 18; (with_reducible refine ((CN _).out).mono ?_); rintro e w1 ⟨rfl, hb⟩; have K1 := sat.grown (show sat _ _ _ from by first | exact K.out | exact K.out.drew) hb; clear hb; have K2 := Lib.hid K1; clear K1 K; have K := K2; clear K2) | (go_at_call 17; (with_reducible refine ((MN _ _ (show sat E _ _ from by first | exact K.out | exact K.out.drew)).out).mono ?_); rintro e w1 ⟨bm, rfl, K1⟩; have K2 := Lib.hid K1; clear K1 K; have K := K2; clear K2) | (refine rg_makeP (E := E) (d := some 13) 59 8 (.pointer none) Tryz.underlying57 ptrInfo (by kernel_rfl) rfl rfl (by first | exact K.out | exact K.out.drew) rfl rfl lz.out lz.out (by omega) (by omega) ?_; intro gt w1 K1; have K2 := Lib.hid K1; clear K1 K; have K := K2; clear K2) | (refine rg_makeP (E := E) (d := some 16) 3 8 (.int .i64 0) Tryz.underlying58 intInfoY (by kernel_rfl) rfl rfl (by first | exact K.out | exact K.out.drew) rfl rfl lz.out lz.out (by omega) (by omega) ?_; intro gm w1 K1; have K2 := Lib.hid K1; clear K1 K; have K := K2; clear K2))
  refine shown hkC _ _ (by (try dsimp only); (first | exact sat.rd 0 (by repeat (with_reducible first | exact K.out | apply sat.alloc_any | apply sat.drew | apply sat.drewN)) rfl | exact sat.rd 1 (by repeat (with_reducible first | exact K.out | apply sat.alloc_any | apply sat.drew | apply sat.drewN)) rfl | exact sat.rd 2 (by repeat (with_reducible first | exact K.out | apply sat.alloc_any | apply sat.drew | apply sat.drewN)) rfl | exact sat.rd 3 (by repeat (with_reducible first | exact K.out | apply sat.alloc_any | apply sat.drew | apply sat.drewN)) rfl | exact sat.rd 4 (by repeat (with_reducible first | exact K.out | apply sat.alloc_any | apply sat.drew | apply sat.drewN)) rfl)) ?_; clear hkC kC hHeld; intro hHeld
  (try simp only [Act.put, p0, p1, p2])
  refine wpAnyH_ready (rs := [3]) (by kernel_rfl) (by simp) ?_
  refine AllReadyH.cons (o := _) rfl (fun kC hkC => ?_) AllReadyH.nil
  go_simp
  (first | (go_at_call 18; (with_reducible refine ((CN _).out).mono ?_); rintro e w1 ⟨rfl, hb⟩; have K1 := sat.grown (show sat _ _ _ from by first | exact K.out | exact K.out.drew) hb; clear hb; have K2 := Lib.hid K1; clear K1 K; have K := K2; clear K2) | (go_at_call 17; (with_reducible refine ((MN _ _ (show sat E _ _ from by first | exact K.out | exact K.out.drew)).out).mono ?_); rintro e w1 ⟨bm, rfl, K1⟩; have K2 := Lib.hid K1; clear K1 K; have K := K2; clear K2) | (refine rg_makeP (E := E) (d := some 13) 59 8 (.pointer none) Tryz.underlying57 ptrInfo (by kernel_rfl) rfl rfl (by first | exact K.out | exact K.out.drew) rfl rfl lz.out lz.out (by omega) (by omega) ?_; intro gt w1 K1; have K2 := Lib.hid K1; clear K1 K; have K := K2; clear K2) | (refine rg_makeP (E := E) (d := some 16) 3 8 (.int .i64 0) Tryz.underlying58 intInfoY (by kernel_rfl) rfl rfl (by first | exact K.out | exact K.out.drew) rfl rfl lz.out lz.out (by omega) (by omega) ?_; intro gm w1 K1; have K2 := Lib.hid K1; clear K1 K; have K := K2; clear K2))
  refine shown hkC _ _ (by (try dsimp only); (first | exact sat.rd 0 (by repeat (with_reducible first | exact K.out | apply sat.alloc_any | apply sat.drew | apply sat.drewN)) rfl | exact sat.rd 1 (by repeat (with_reducible first | exact K.out | apply sat.alloc_any | apply sat.drew | apply sat.drewN)) rfl | exact sat.rd 2 (by repeat (with_reducible first | exact K.out | apply sat.alloc_any | apply sat.drew | apply sat.drewN)) rfl | exact sat.rd 3 (by repeat (with_reducible first | exact K.out | apply sat.alloc_any | apply sat.drew | apply sat.drewN)) rfl | exact sat.rd 4 (by repeat (with_reducible first | exact K.out | apply sat.alloc_any | apply sat.drew | apply sat.drewN)) rfl)) ?_; clear hkC kC hHeld; intro hHeld
  (try simp only [Act.put, p0, p1, p2])
  refine tk 10 (some 17) ?_
  (try simp only [Act.put, p0, p1, p2])
  refine wpAnyH_ready (rs := [11]) (by kernel_rfl) (by simp) ?_
  refine AllReadyH.cons (o := _) rfl (fun kC hkC => ?_) AllReadyH.nil
  (refine rg_box (E := E) (d := some 18) (by kernel_rfl) rfl rfl (by first | exact K.out | exact K.out.drew) rfl rfl (fun _ => rfl) ?_; intro gx w1 K1; have K2 := Lib.hid K1; clear K1 K; have K := K2; clear K2)
  refine shown hkC _ _ (by (try dsimp only); (first | exact sat.rd 0 (by repeat (with_reducible first | exact K.out | apply sat.alloc_any | apply sat.drew | apply sat.drewN)) rfl | exact sat.rd 1 (by repeat (with_reducible first | exact K.out | apply sat.alloc_any | apply sat.drew | apply sat.drewN)) rfl | exact sat.rd 2 (by repeat (with_reducible first | exact K.out | apply sat.alloc_any | apply sat.drew | apply sat.drewN)) rfl | exact sat.rd 3 (by repeat (with_reducible first | exact K.out | apply sat.alloc_any | apply sat.drew | apply sat.drewN)) rfl | exact sat.rd 4 (by repeat (with_reducible first | exact K.out | apply sat.alloc_any | apply sat.drew | apply sat.drewN)) rfl)) ?_; clear hkC kC hHeld; intro hHeld
  (try simp only [Act.put, p0, p1, p2])
  refine tk 12 (some 2) ?_
  (try simp only [Act.put, p0, p1, p2])
  refine tk 13 (some 3) ?_
  (try simp only [Act.put, p0, p1, p2])
  have K1 := K.out; have K2 := Lib.hid K1; clear K1 K; (try clear a0); (try clear l0); (try clear f0); (try clear a1); (try clear l1); (try clear f1); (try clear a2); (try clear l2); (try clear f2); (try clear a3); (try clear l3); (try clear f3); (try clear a4); (try clear l4); (try clear f4); (try clear a5); (try clear l5); (try clear f5); have K := K2; clear K2; (try have a0 := K.out.rd 0 rfl); (try have l0 := K.out.ltp 0 rfl); (try have f0 := K.out.fr 0 rfl); (try have a1 := K.out.rd 1 rfl); (try have l1 := K.out.ltp 1 rfl); (try have f1 := K.out.fr 1 rfl); (try have a2 := K.out.rd 2 rfl); (try have l2 := K.out.ltp 2 rfl); (try have f2 := K.out.fr 2 rfl); (try have a3 := K.out.rd 3 rfl); (try have l3 := K.out.ltp 3 rfl); (try have f3 := K.out.fr 3 rfl)
  refine wpAnyH_done (by kernel_rfl) (NoPanic.normal ?_) _
  rotate_left
  exact AllReadyH.nil
  exact AllReadyH.nil
  all_goals
    go_wp2
    go_ret2
    refine ⟨gx, rfl, yardA_shut (y := YardM.new c) (bm := bm) (gt := gt) (gm := gm) (p := none) (n := 0) (c := 0) (vs := List.replicate c.th.toNat (.pointer none)) ?_⟩
    have K1 := (show sat E _ _ from K.out.pick 4 rfl).drop
    rw [ints_rep] at K1
    have K2 := tasks_mk c.th.toNat (sat.row_nil 51 11 K1)
    simp only [yardP, YardM.v, YardM.new, List.length_replicate]
    first
    | exact ((((((K2.pick 5 rfl).pick 2 rfl).pick 2 rfl).pick 5 rfl).pick 5 rfl).pick 5 rfl)
    | exact ((((((K2.pick 4 rfl).pick 2 rfl).pick 2 rfl).pick 5 rfl).pick 5 rfl).pick 5 rfl)
    | exact ((((((K2.pick 5 rfl).pick 2 rfl).pick 2 rfl).pick 4 rfl).pick 5 rfl).pick 5 rfl)
    | exact ((((((K2.pick 4 rfl).pick 2 rfl).pick 2 rfl).pick 4 rfl).pick 5 rfl).pick 5 rfl)
    | exact ((((((K2.pick 3 rfl).pick 2 rfl).pick 2 rfl).pick 5 rfl).pick 5 rfl).pick 5 rfl)
    | exact ((((((K2.pick 3 rfl).pick 2 rfl).pick 2 rfl).pick 4 rfl).pick 5 rfl).pick 5 rfl)
end
end Go.Proofs.YtegdhojhnmgjgaaGreat
