/- Several texts in one: YardD YardE. Each says ahead of it what it shows. -/
import Derived.Test.YtegdhojhnmgjgaaGreatBa
set_option linter.unusedVariables false
set_option linter.unusedSimpArgs false
/- Threads that share cells (package yard): a call begins (Call). Conditions: as YardM.ok says. -/
namespace Go.SepYtegdhojhnmgjgaaGreat
open Go Go.RowKit
theorem alloc_news (w : World) (l : List Value) (t : TypeId) (j : Nat) (u : Value) (hj : l[j]? = some u) : (w.alloc (.cells l.toArray t)).cell? ⟨w.heap.size, 0 + j, none⟩ = some u := by
  rw [Nat.zero_add, World.cell?_alloc_at _ _ _ _ rfl]
  simpa using hj
theorem rg_append_d {E w : World} {L : List SA} {P : Program} (i : Nat) {ops : Array Oper} {a : Act} {o : Oper} {Kc : Act → World → Prop} {Q : Exit → Act → World → Prop} {s x : Operand} {t : TypeId}
    (hw : Region.wanted o (yielded ops a.tmps) = true) {d : Option Tmp} (hd : o.dst = d) (ho : o.op = .call { callee := .builtin .append, args := #[s, x], argTypes := #[t, t] })
    (e size bytes : Nat) (ht : P.underlying t = some (.slice e)) (hi : ∃ q z, P.info? e = some q ∧ q.zero = some z ∧ q.size = size ∧ q.bytes = bytes ∧ z.cells.size = size)
    (h : sat E w L) {v : Value} {n : Nat} {xs : List Value} (hs : look a s = some v) (hL : L[i]? = some (rowA v e size n xs))
    {g m c : Nat} {news : List Value} (hx : look a x = some (.slice (some ⟨g, 0, none⟩) m c)) (hl : news.length = m * size) (hnews : ∀ j u, news[j]? = some u → w.cell? ⟨g, 0 + j, none⟩ = some u) (h1 : ∀ u ∈ news, u.oneCell' = true) (hm : 0 < m)
    (h63 : n + m ≤ maxLen) (hbytes : (n + m) * bytes ≤ 140737488355328)
    (k : ∀ p1 n1 c1 w', sat E w' (L.set i (rowA (.slice p1 n1 c1) e size (n + m) (xs ++ news))) → Kc (a.put d (.slice p1 n1 c1)) w') :
    if Region.wanted o (yielded ops a.tmps) = true then Oper.wp P o a w Kc Q else Kc (a.put o.dst undef) w := by
  subst hd
  exact rg_append i hw ho e size bytes ht hi h (look_eval hs) hL (look_eval hx) hl hnews h1 hm h63 hbytes k
end Go.SepYtegdhojhnmgjgaaGreat
namespace Go.Proofs.YtegdhojhnmgjgaaGreat
open Go.RowKit Go.SepYtegdhojhnmgjgaaGreat
set_option maxRecDepth 100000
set_option maxHeartbeats 4000000
section
variable {E w : World} {L : List SA}
theorem ycall_nil (who : Int) (k : CallM) (h : sat E w L) : Calls Tryz.prog 19 #[.pointer none, .int .i64 who, .agg #[.int .i64 k.kind, .int .i64 k.fin, .int .u64 k.value, .int .i64 k.start]] w fun e w' => e = .returned (.int .i64 1) ∧ sat E w' L := by
  have K := Lib.hid h
  clear h
  go_enter Tryz.func19, Tryz.ntmps19
  go_wp2_with (first | ((with_reducible refine at_box ?_); refine st_boxf K.out rfl rfl (fun _ => rfl) ?_; intro g5 w1 K1; have K2 := Lib.hid K1; clear K1 K; (try clear a0); (try clear l0); (try clear a1); (try clear l1); (try clear a2); (try clear l2); have K := K2; clear K2; have a0 := K.out.rd 0 rfl; have l0 := K.out.ltp 0 rfl) | (go_at_call 49; (with_reducible refine (ythere_nil who _).mono ?_); rintro e w1 ⟨rfl, rfl⟩))
  go_ret
  exact ⟨rfl, K.out.drop⟩
theorem ints_set (l : List Int) (i : Nat) (x : Int) : (ints l).set i (.int .i64 x) = ints (l.set i x) := by simp [ints]
theorem ycall_out (b : Nat) (y : YardM) (ho : y.ok) (who : Int) (k : CallM) (hbad : (!y.there who || !k.right) = true) (h : sat E w (yardA b y :: L)) : Calls Tryz.prog 19 #[.pointer (some ⟨b, 0, none⟩), .int .i64 who, .agg #[.int .i64 k.kind, .int .i64 k.fin, .int .u64 k.value, .int .i64 k.start]] w fun e w' => e = .returned (.int .i64 1) ∧ sat E w' (yardA b y :: L) := by
  have K := Lib.hid h
  clear h
  have TH := fun w' (M : List SA) (h : sat E w' (yardA b y :: M)) => Lib.hid (ythere_calls b y who h)
  have CR := fun w' => Lib.hid (cright_calls k w')
  cases ht : y.there who with
  | false =>
    rw [ht] at TH
    go_enter Tryz.func19, Tryz.ntmps19
    go_wp2_with (first | ((with_reducible refine at_box ?_); refine st_boxf K.out rfl rfl (fun _ => rfl) ?_; intro g5 w1 K1; have K2 := Lib.hid K1; clear K1 K; (try clear a0); (try clear l0); (try clear a1); (try clear l1); (try clear a2); (try clear l2); have K := K2; clear K2; have a0 := K.out.rd 0 rfl; have l0 := K.out.ltp 0 rfl) | (go_at_call 49; (with_reducible refine (TH _ _ (K.out.pick 1 rfl)).out.mono ?_); rintro e w1 ⟨rfl, rfl⟩))
    go_ret
    exact ⟨rfl, K.out.drop⟩
  | true =>
    rw [ht] at TH
    have hr : k.right = false := by rw [ht] at hbad; simpa using hbad
    rw [hr] at CR
    go_enter Tryz.func19, Tryz.ntmps19
    go_wp2_with (first | ((with_reducible refine at_box ?_); refine st_boxf K.out rfl rfl (fun _ => rfl) ?_; intro g5 w1 K1; have K2 := Lib.hid K1; clear K1 K; (try clear a0); (try clear l0); (try clear a1); (try clear l1); (try clear a2); (try clear l2); have K := K2; clear K2; have a0 := K.out.rd 0 rfl; have l0 := K.out.ltp 0 rfl) | (go_at_call 49; (with_reducible refine (TH _ _ (K.out.pick 1 rfl)).out.mono ?_); rintro e w1 ⟨rfl, rfl⟩) | (go_at_call 50; (with_reducible refine ((CR _).out).mono ?_); rintro e w1 ⟨rfl, hb⟩; have K1 := sat.grown (by repeat (with_reducible first | exact K.out | apply sat.alloc_any | apply sat.drew | apply sat.drewN)) hb; clear hb; have K2 := Lib.hid K1; clear K1 K; (try clear a0); (try clear l0); (try clear a1); (try clear l1); (try clear a2); (try clear l2); have K := K2; clear K2; have a0 := K.out.rd 0 rfl; have l0 := K.out.ltp 0 rfl))
    go_ret
    exact ⟨rfl, K.out.drop⟩
theorem there_bd {y : YardM} {who : Int} (h : y.there who = true) : 0 ≤ who ∧ who < y.conf.th := by
  have h' : (decide (0 ≤ who) && decide (who < y.conf.th)) = true := h
  rw [Bool.and_eq_true, decide_eq_true_eq, decide_eq_true_eq] at h'
  exact h'
theorem ycall_busy (b : Nat) (y : YardM) (ho : y.ok) (who : Int) (k : CallM) (ht : y.there who = true) (hr : k.right = true) (hb : (y.task who).isSome = true) (h : sat E w (yardA b y :: L)) : Calls Tryz.prog 19 #[.pointer (some ⟨b, 0, none⟩), .int .i64 who, .agg #[.int .i64 k.kind, .int .i64 k.fin, .int .u64 k.value, .int .i64 k.start]] w fun e w' => e = .returned (.int .i64 2) ∧ sat E w' (yardA b y :: L) := by
  have K0 := Lib.hid h
  obtain ⟨bm, gt, gm, p, n, c, vs, h⟩ := yardA_open h
  have TH := fun w' (M : List SA) (h : sat E w' (yardA b y :: M)) => Lib.hid (ythere_calls b y who h)
  have CR := fun w' => Lib.hid (cright_calls k w')
  rw [ht] at TH
  rw [hr] at CR
  obtain ⟨h1, h2⟩ := task_at ho ht
  obtain ⟨t0, t1'⟩ := there_bd ht
  have t1 : who < (y.tasks.length : Int) := by have := ho.tl; omega
  obtain ⟨v, hv, hs⟩ := tasks_pick who.toNat h1 (h.pick 3 rfl)
  rw [List.getElem?_eq_getElem h1] at h2
  rw [Option.some.inj h2] at hs
  obtain ⟨q, rfl, hq⟩ := taskO_bool hs
  rw [hb] at hq
  obtain ⟨q, rfl⟩ := Option.isSome_iff_exists.1 hq
  have K := Lib.hid h
  have HV := Lib.hid hv
  clear h hs hq h2 hv
  have TH2 := fun w' (M : List SA) (h : sat E w' (yardP b bm gt gm (.slice p n c) y :: memA bm y.mem :: ptrsA gt vs :: tasksA vs y.tasks :: deedsA p n c y.deeds :: mineA gm y.mine :: M)) => TH w' M (yardA_shut h)
  go_enter Tryz.func19, Tryz.ntmps19
  go_wp2_with (first | (((with_reducible refine at_box ?_); refine st_boxf K.out rfl rfl (fun _ => rfl) ?_; intro g5 w1 K1; have K2 := Lib.hid K1; clear K1 K; (try clear a0); (try clear l0); (try clear a1); (try clear l1); (try clear a2); (try clear l2); have K := K2; clear K2; have a0 := K.out.rd 0 rfl; have l0 := K.out.ltp 0 rfl; have a1 := K.out.rd 1 rfl; have l1 := K.out.ltp 1 rfl); have x0 := K.out.rd 3 rfl who.toNat; rw [HV.out] at x0) | (go_at_call 49; (with_reducible refine (TH2 _ _ (((((((K.out.pick 0 rfl).pick 6 rfl).pick 6 rfl).pick 6 rfl).pick 6 rfl).pick 6 rfl).pick 6 rfl)).out.mono ?_); rintro e w1 ⟨rfl, rfl⟩) | ((go_at_call 50; (with_reducible refine ((CR _).out).mono ?_); rintro e w1 ⟨rfl, hb⟩; have K1 := sat.grown (by repeat (with_reducible first | exact K.out | apply sat.alloc_any | apply sat.drew | apply sat.drewN)) hb; clear hb; have K2 := Lib.hid K1; clear K1 K; (try clear a0); (try clear l0); (try clear a1); (try clear l1); (try clear a2); (try clear l2); have K := K2; clear K2; have a0 := K.out.rd 0 rfl; have l0 := K.out.ltp 0 rfl; have a1 := K.out.rd 1 rfl; have l1 := K.out.ltp 1 rfl); (try clear x0); have x0 := K.out.rd 3 rfl who.toNat; rw [HV.out] at x0))
  go_ret
  exact ⟨rfl, yardA_shut K.out.drop⟩
theorem tasks_begin {vs : List Value} {ts : List (Option TaskM)} (i : Nat) (hi : i < ts.length) (hn : ts[i]? = some none) {g : Nat} {t : TaskM} (h : sat E w (taskA g t :: tasksA vs ts :: L)) : sat E w (tasksA (vs.set i (.pointer (some ⟨g, 0, none⟩))) (ts.set i (some t)) :: L) := by
  obtain ⟨v, hv, hs⟩ := tasks_pick i hi h.swap
  rw [List.getElem?_eq_getElem hi] at hn
  rw [Option.some.inj hn] at hs
  obtain ⟨hv0, hs2⟩ := taskO_none hs
  exact tasks_put i hi _ _ (taskO_put hs2.swap)
theorem ycall_go (b : Nat) (y : YardM) (ho : y.ok) (who : Int) (k : CallM) (hdl : y.deeds.length < 100000) (hmv : y.moves < 1000000) (ht : y.there who = true) (hr : k.right = true) (hb : y.task who = none) (h : sat E w (yardA b y :: L)) : Calls Tryz.prog 19 #[.pointer (some ⟨b, 0, none⟩), .int .i64 who, .agg #[.int .i64 k.kind, .int .i64 k.fin, .int .u64 k.value, .int .i64 k.start]] w fun e w' => e = .returned (.int .i64 0) ∧
    sat E w' (yardA b { y with tasks := y.tasks.set who.toNat (some (TaskM.new y.conf who k)), mine := y.mine.set who.toNat y.deeds.length, deeds := y.deeds ++ [⟨who, k, y.moves, -1, .zero⟩], moves := y.moves + 1 } :: L) := by
  obtain ⟨bm, gt, gm, p, n, c, vs, h⟩ := yardA_open h
  obtain ⟨hn, _⟩ := Go.SepYtegdhojhnmgjgaaGreat.row_len (h.pick 4 rfl)
  subst hn
  have TH := fun w' (M : List SA) (h : sat E w' (yardA b y :: M)) => Lib.hid (ythere_calls b y who h)
  have CR := fun w' => Lib.hid (cright_calls k w')
  rw [ht] at TH
  rw [hr] at CR
  have TH2 := fun w' (M : List SA) (h : sat E w' (yardP b bm gt gm (.slice p y.deeds.length c) y :: memA bm y.mem :: ptrsA gt vs :: tasksA vs y.tasks :: deedsA p y.deeds.length c y.deeds :: mineA gm y.mine :: M)) => TH w' M (yardA_shut h)
  obtain ⟨h1, h2⟩ := task_at ho ht
  obtain ⟨t0, t1'⟩ := there_bd ht
  have t1 : who < (y.tasks.length : Int) := by have := ho.tl; omega
  have t2 : who < (y.mine.length : Int) := by have := ho.ml; omega
  have hvl := sat_has (h.pick 3 rfl) (fun g => tasks_len vs y.tasks)
  obtain ⟨v, hv, hs⟩ := tasks_pick who.toNat h1 (h.pick 3 rfl)
  rw [List.getElem?_eq_getElem h1] at h2
  rw [Option.some.inj h2, hb] at hs
  obtain ⟨rfl, hs⟩ := taskO_none hs
  have K := Lib.hid h
  have TN := fun w' (M : List SA) (h : sat E w' M) => Lib.hid (tnew_calls y.conf ho.conf who k h)
  have HV := Lib.hid hv
  have H1 := Lib.hid h1
  have HN := Lib.hid (show y.tasks[who.toNat]? = some none from by rw [List.getElem?_eq_getElem h1, Option.some.inj h2, hb])
  have m0 := ho.m0
  have v1 : wrap64 (y.moves + 1) = y.moves + 1 := w64 (by omega) (by omega)
  clear h hs h2 hv h1
  go_enter Tryz.func19, Tryz.ntmps19
  go_wp2_with (first | (((with_reducible refine at_box ?_); refine st_boxf K.out rfl rfl (fun _ => rfl) ?_; intro g5 w1 K1; have K2 := Lib.hid K1; clear K1 K; (try clear a0); (try clear l0); (try clear a1); (try clear l1); (try clear a2); (try clear l2); have K := K2; clear K2; have a0 := K.out.rd 0 rfl; have l0 := K.out.ltp 0 rfl; have a1 := K.out.rd 1 rfl; have l1 := K.out.ltp 1 rfl); have x0 := K.out.rd 3 rfl who.toNat; rw [HV.out] at x0) | (go_at_call 49; (with_reducible refine (TH2 _ _ (((((((K.out.pick 0 rfl).pick 6 rfl).pick 6 rfl).pick 6 rfl).pick 6 rfl).pick 6 rfl).pick 6 rfl)).out.mono ?_); rintro e w1 ⟨rfl, rfl⟩) | ((go_at_call 50; (with_reducible refine ((CR _).out).mono ?_); rintro e w1 ⟨rfl, hb⟩; have K1 := sat.grown (by repeat (with_reducible first | exact K.out | apply sat.alloc_any | apply sat.drew | apply sat.drewN)) hb; clear hb; have K2 := Lib.hid K1; clear K1 K; (try clear a0); (try clear l0); (try clear a1); (try clear l1); (try clear a2); (try clear l2); have K := K2; clear K2; have a0 := K.out.rd 0 rfl; have l0 := K.out.ltp 0 rfl; have a1 := K.out.rd 1 rfl; have l1 := K.out.ltp 1 rfl); (try clear x0); have x0 := K.out.rd 3 rfl who.toNat; rw [HV.out] at x0))
  clear x0 TH TH2 hb ht hr
  refine wp_region_noPanic ?_
  refine wp_region_held_drew (S := (fun w' => (∀ j, w'.cell? ⟨b, j, none⟩ = (YardM.v y bm gt gm (.slice p y.deeds.length c))[j]?) ∧ (∀ j, w'.cell? ⟨g5, j, none⟩ = ([.int .i64 k.kind, .int .i64 k.fin, .int .u64 k.value, .int .i64 k.start] : List Value)[j]?))) (by kernel_rfl) ?_ (fun hHeld => ?_)
  · ((try dsimp only); (first | exact ⟨sat.rd 1 (by repeat (with_reducible first | exact K.out | apply sat.alloc_any | apply sat.drew | apply sat.drewN)) rfl, sat.rd 0 (by repeat (with_reducible first | exact K.out | apply sat.alloc_any | apply sat.drew | apply sat.drewN)) rfl⟩ | exact ⟨sat.rd 2 (by repeat (with_reducible first | exact K.out | apply sat.alloc_any | apply sat.drew | apply sat.drewN)) rfl, sat.rd 1 (by repeat (with_reducible first | exact K.out | apply sat.alloc_any | apply sat.drew | apply sat.drewN)) rfl⟩))
  refine tk 0 (some 26) ?_
  (try simp only [Act.put, p0, p1, p2])
  refine tk 1 (some 27) ?_
  (try simp only [Act.put, p0, p1, p2])
  refine tk 2 (some 28) ?_
  (try simp only [Act.put, p0, p1, p2])
  refine tk 3 (some 29) ?_
  (try simp only [Act.put, p0, p1, p2])
  refine tk 4 (some 30) ?_
  (try simp only [Act.put, p0, p1, p2])
  refine tk 5 (some 31) ?_
  (try simp only [Act.put, p0, p1, p2])
  refine tk 6 (some 32) ?_
  (try simp only [Act.put, p0, p1, p2])
  refine tk 7 (some 33) ?_
  (try simp only [Act.put, p0, p1, p2])
  refine tk 8 (some 34) ?_
  (try simp only [Act.put, p0, p1, p2])
  refine tk 9 (some 35) ?_
  (try simp only [Act.put, p0, p1, p2])
  refine tk 10 (some 36) ?_
  (try simp only [Act.put, p0, p1, p2])
  refine wpAnyH_ready (rs := [11]) (by kernel_rfl) (by simp) ?_
  refine AllReadyH.cons (o := _) rfl (fun kC hkC => ?_) AllReadyH.nil
  go_simp
  (first | (go_at_call 21; (with_reducible refine ((TN _ _ (show sat E _ _ from by first | exact K.out | exact K.out.drew)).out).mono ?_); rintro e w1 ⟨gk, rfl, K1⟩; have K2 := Lib.hid K1; clear K1 K; have K := K2; clear K2))
  refine shown hkC _ _ (by (try dsimp only); (first | exact ⟨sat.rd 1 (by repeat (with_reducible first | exact K.out | apply sat.alloc_any | apply sat.drew | apply sat.drewN)) rfl, sat.rd 0 (by repeat (with_reducible first | exact K.out | apply sat.alloc_any | apply sat.drew | apply sat.drewN)) rfl⟩ | exact ⟨sat.rd 2 (by repeat (with_reducible first | exact K.out | apply sat.alloc_any | apply sat.drew | apply sat.drewN)) rfl, sat.rd 1 (by repeat (with_reducible first | exact K.out | apply sat.alloc_any | apply sat.drew | apply sat.drewN)) rfl⟩)) ?_; clear hkC kC hHeld; intro hHeld
  (try simp only [Act.put, p0, p1, p2])
  refine tk 12 (some 38) ?_
  (try simp only [Act.put, p0, p1, p2])
  refine wpAnyH_ready (rs := [13]) (by kernel_rfl) (by simp) ?_
  refine AllReadyH.cons (o := _) rfl (fun kC hkC => ?_) AllReadyH.nil
  (refine rg_store (E := E) (d := none) 4 (by kernel_rfl) rfl rfl (by first | exact K.out | exact K.out.drew) rfl rfl rfl rfl ?_ ?_ ?_ ?_; (· kernel_rfl); (· show _ + 1 ≤ _; (try simp only [ints, List.length_map]); omega); (· simp [Value.oneCell']); intro w1 K1; simp only [List.set, putL_one] at K1; have K2 := Lib.hid K1; clear K1 K; have K := K2; clear K2)
  refine shown hkC _ _ (by (try dsimp only); (first | exact ⟨sat.rd 1 (by repeat (with_reducible first | exact K.out | apply sat.alloc_any | apply sat.drew | apply sat.drewN)) rfl, sat.rd 0 (by repeat (with_reducible first | exact K.out | apply sat.alloc_any | apply sat.drew | apply sat.drewN)) rfl⟩ | exact ⟨sat.rd 2 (by repeat (with_reducible first | exact K.out | apply sat.alloc_any | apply sat.drew | apply sat.drewN)) rfl, sat.rd 1 (by repeat (with_reducible first | exact K.out | apply sat.alloc_any | apply sat.drew | apply sat.drewN)) rfl⟩)) ?_; clear hkC kC hHeld; intro hHeld
  (try simp only [Act.put, p0, p1, p2])
  have K1 := K.out; have K2 := Lib.hid K1; clear K1 K; (try clear a0); (try clear l0); (try clear f0); (try clear a1); (try clear l1); (try clear f1); (try clear a2); (try clear l2); (try clear f2); (try clear a3); (try clear l3); (try clear f3); (try clear a4); (try clear l4); (try clear f4); (try clear a5); (try clear l5); (try clear f5); have K := K2; clear K2; (try have a0 := K.out.rd 0 rfl); (try have l0 := K.out.ltp 0 rfl); (try have f0 := K.out.fr 0 rfl); (try have a1 := K.out.rd 1 rfl); (try have l1 := K.out.ltp 1 rfl); (try have f1 := K.out.fr 1 rfl); (try have a2 := K.out.rd 2 rfl); (try have l2 := K.out.ltp 2 rfl); (try have f2 := K.out.fr 2 rfl); (try have a3 := K.out.rd 3 rfl); (try have l3 := K.out.ltp 3 rfl); (try have f3 := K.out.fr 3 rfl)
  refine wpAnyH_done (by kernel_rfl) (NoPanic.normal ?_) _
  go_wp2_with fail
  refine wp_region_noPanic ?_
  refine wp_region_held_drew (S := (fun w' => (∀ j, w'.cell? ⟨b, j, none⟩ = (YardM.v y bm gt gm (.slice p y.deeds.length c))[j]?) ∧ (∀ j, w'.cell? ⟨g5, j, none⟩ = ([.int .i64 k.kind, .int .i64 k.fin, .int .u64 k.value, .int .i64 k.start] : List Value)[j]?))) (by kernel_rfl) ?_ (fun hHeld => ?_)
  · ((try dsimp only); (first | exact ⟨sat.rd 1 (by repeat (with_reducible first | exact K.out | apply sat.alloc_any | apply sat.drew | apply sat.drewN)) rfl, sat.rd 0 (by repeat (with_reducible first | exact K.out | apply sat.alloc_any | apply sat.drew | apply sat.drewN)) rfl⟩ | exact ⟨sat.rd 2 (by repeat (with_reducible first | exact K.out | apply sat.alloc_any | apply sat.drew | apply sat.drewN)) rfl, sat.rd 1 (by repeat (with_reducible first | exact K.out | apply sat.alloc_any | apply sat.drew | apply sat.drewN)) rfl⟩))
  refine tk 0 (some 39) ?_
  (try simp only [Act.put, p0, p1, p2])
  refine tk 1 (some 40) ?_
  (try simp only [Act.put, p0, p1, p2])
  refine tk 2 (some 41) ?_
  (try simp only [Act.put, p0, p1, p2])
  refine tk 3 (some 42) ?_
  (try simp only [Act.put, p0, p1, p2])
  refine tk 4 (some 43) ?_
  (try simp only [Act.put, p0, p1, p2])
  refine tk 5 (some 44) ?_
  (try simp only [Act.put, p0, p1, p2])
  refine tk 6 (some 45) ?_
  (try simp only [Act.put, p0, p1, p2])
  refine tk 7 (some 46) ?_
  (try simp only [Act.put, p0, p1, p2])
  refine tk 8 (some 47) ?_
  (try simp only [Act.put, p0, p1, p2])
  refine tk 9 (some 48) ?_
  (try simp only [Act.put, p0, p1, p2])
  refine tk 10 (some 49) ?_
  (try simp only [Act.put, p0, p1, p2])
  refine wpAnyH_ready (rs := [11]) (by kernel_rfl) (by simp) ?_
  refine AllReadyH.cons (o := _) rfl (fun kC hkC => ?_) AllReadyH.nil
  (refine rg_store (E := E) (d := none) 7 (by kernel_rfl) rfl rfl (by first | exact K.out | exact K.out.drew) rfl rfl rfl rfl ?_ ?_ ?_ ?_; (· kernel_rfl); (· show _ + 1 ≤ _; (try simp only [ints, List.length_map]); omega); (· simp [Value.oneCell']); intro w1 K1; simp only [List.set, putL_one] at K1; have K2 := Lib.hid K1; clear K1 K; have K := K2; clear K2)
  refine shown hkC _ _ (by (try dsimp only); (first | exact ⟨sat.rd 1 (by repeat (with_reducible first | exact K.out | apply sat.alloc_any | apply sat.drew | apply sat.drewN)) rfl, sat.rd 0 (by repeat (with_reducible first | exact K.out | apply sat.alloc_any | apply sat.drew | apply sat.drewN)) rfl⟩ | exact ⟨sat.rd 2 (by repeat (with_reducible first | exact K.out | apply sat.alloc_any | apply sat.drew | apply sat.drewN)) rfl, sat.rd 1 (by repeat (with_reducible first | exact K.out | apply sat.alloc_any | apply sat.drew | apply sat.drewN)) rfl⟩)) ?_; clear hkC kC hHeld; intro hHeld
  (try simp only [Act.put, p0, p1, p2])
  have K1 := K.out; have K2 := Lib.hid K1; clear K1 K; (try clear a0); (try clear l0); (try clear f0); (try clear a1); (try clear l1); (try clear f1); (try clear a2); (try clear l2); (try clear f2); (try clear a3); (try clear l3); (try clear f3); (try clear a4); (try clear l4); (try clear f4); (try clear a5); (try clear l5); (try clear f5); have K := K2; clear K2; (try have a0 := K.out.rd 0 rfl); (try have l0 := K.out.ltp 0 rfl); (try have f0 := K.out.fr 0 rfl); (try have a1 := K.out.rd 1 rfl); (try have l1 := K.out.ltp 1 rfl); (try have f1 := K.out.fr 1 rfl); (try have a2 := K.out.rd 2 rfl); (try have l2 := K.out.ltp 2 rfl); (try have f2 := K.out.fr 2 rfl); (try have a3 := K.out.rd 3 rfl); (try have l3 := K.out.ltp 3 rfl); (try have f3 := K.out.fr 3 rfl)
  refine wpAnyH_done (by kernel_rfl) (NoPanic.normal ?_) _
  go_wp2_with fail
  refine wp_region_noPanic ?_
  refine wp_region_held_drew (S := (fun w' => (∀ j, w'.cell? ⟨g5, j, none⟩ = ([.int .i64 k.kind, .int .i64 k.fin, .int .u64 k.value, .int .i64 k.start] : List Value)[j]?) ∧ w'.cell? ⟨b, 8, none⟩ = some (.int .i64 y.moves))) (by kernel_rfl) ?_ (fun hHeld => ?_)
  · ((try dsimp only); (exact ⟨sat.rd 1 (by repeat (with_reducible first | exact K.out | apply sat.alloc_any | apply sat.drew | apply sat.drewN)) rfl, Eq.trans (sat.rd 2 (by repeat (with_reducible first | exact K.out | apply sat.alloc_any | apply sat.drew | apply sat.drewN)) rfl 8) rfl⟩))
  refine tk 0 (some 50) ?_
  (try simp only [Act.put, p0, p1, p2])
  refine tk 1 (some 51) ?_
  (try simp only [Act.put, p0, p1, p2])
  refine tk 2 (some 52) ?_
  (try simp only [Act.put, p0, p1, p2])
  refine tk 3 (some 53) ?_
  (try simp only [Act.put, p0, p1, p2])
  refine tk 5 (some 55) ?_
  (try simp only [Act.put, p0, p1, p2])
  refine tk 6 (some 56) ?_
  (try simp only [Act.put, p0, p1, p2])
  refine tk 7 (some 57) ?_
  (try simp only [Act.put, p0, p1, p2])
  refine tk 8 (some 58) ?_
  (try simp only [Act.put, p0, p1, p2])
  refine tk 9 (some 59) ?_
  (try simp only [Act.put, p0, p1, p2])
  refine tk 10 (some 60) ?_
  (try simp only [Act.put, p0, p1, p2])
  refine tk 11 (some 61) ?_
  (try simp only [Act.put, p0, p1, p2])
  refine wpAnyH_ready (rs := [4, 12]) (by kernel_rfl) (by simp) ?_
  refine AllReadyH.cons (o := _) rfl (fun kC hkC => ?_) ?_
  go_simp
  refine shown hkC _ _ (by (try dsimp only); (exact ⟨sat.rd 1 (by repeat (with_reducible first | exact K.out | apply sat.alloc_any | apply sat.drew | apply sat.drewN)) rfl, Eq.trans (sat.rd 2 (by repeat (with_reducible first | exact K.out | apply sat.alloc_any | apply sat.drew | apply sat.drewN)) rfl 8) rfl⟩)) ?_; clear hkC kC hHeld; intro hHeld
  (try simp only [Act.put, p0, p1, p2])
  refine wpAnyH_ready (rs := [12]) (by kernel_rfl) (by simp) ?_
  refine AllReadyH.cons (o := _) rfl (fun kC hkC => ?_) AllReadyH.nil
  go_simp
  refine shown hkC _ _ (by (try dsimp only); (exact ⟨sat.rd 1 (by repeat (with_reducible first | exact K.out | apply sat.alloc_any | apply sat.drew | apply sat.drewN)) rfl, Eq.trans (sat.rd 2 (by repeat (with_reducible first | exact K.out | apply sat.alloc_any | apply sat.drew | apply sat.drewN)) rfl 8) rfl⟩)) ?_; clear hkC kC hHeld; intro hHeld
  (try simp only [Act.put, p0, p1, p2])
  refine wpAnyH_ready (rs := [13]) (by kernel_rfl) (by simp) ?_
  refine AllReadyH.cons (o := _) rfl (fun kC hkC => ?_) AllReadyH.nil
  (first | (refine rg_append_d (E := E) (d := some 63) 6 (by kernel_rfl) rfl rfl 51 11 88 Tryz.underlying37 deedInfoY (by repeat (with_reducible first | exact K.out | apply sat.alloc_any | apply sat.drew | apply sat.drewN)) rfl rfl (news := (DeedM.v ⟨who, k, y.moves, -1, .zero⟩)) rfl rfl (fun j u hj => alloc_news w1 (DeedM.v ⟨who, k, y.moves, -1, .zero⟩) 51 j u hj) ?_ Nat.one_pos ?_ ?_ ?_; (· simp [Value.oneCell']); (· simp only [maxLen]; omega); (· omega); intro p2 n2 c2 w1 K1; simp only [List.set] at K1; have K2 := Lib.hid K1; clear K1 K; have K := K2; clear K2))
  refine shown hkC _ _ (by (try dsimp only); (exact ⟨sat.rd 1 (by repeat (with_reducible first | exact K.out | apply sat.alloc_any | apply sat.drew | apply sat.drewN)) rfl, Eq.trans (sat.rd 2 (by repeat (with_reducible first | exact K.out | apply sat.alloc_any | apply sat.drew | apply sat.drewN)) rfl 8) rfl⟩)) ?_; clear hkC kC hHeld; intro hHeld
  (try simp only [Act.put, p0, p1, p2])
  refine tk 14 (some 64) ?_
  (try simp only [Act.put, p0, p1, p2])
  refine tk 15 (some 65) ?_
  (try simp only [Act.put, p0, p1, p2])
  refine wpAnyH_ready (rs := [16]) (by kernel_rfl) (by simp) ?_
  refine AllReadyH.cons (o := _) rfl (fun kC hkC => ?_) AllReadyH.nil
  (first | (refine rg_store (E := E) (d := none) 0 (by kernel_rfl) rfl rfl (by first | exact K.out | exact K.out.drew) rfl rfl rfl rfl ?_ ?_ ?_ ?_; (· kernel_rfl); (· simp); (· simp [Value.oneCell']); intro w1 K1; simp only [List.set, putL] at K1; have K2 := Lib.hid K1; clear K1 K; have K := K2; clear K2) | (refine rg_store (E := E) (d := none) 1 (by kernel_rfl) rfl rfl (by first | exact K.out | exact K.out.drew) rfl rfl rfl rfl ?_ ?_ ?_ ?_; (· kernel_rfl); (· simp); (· simp [Value.oneCell']); intro w1 K1; simp only [List.set, putL] at K1; have K2 := Lib.hid K1; clear K1 K; have K := K2; clear K2) | (refine rg_store (E := E) (d := none) 2 (by kernel_rfl) rfl rfl (by first | exact K.out | exact K.out.drew) rfl rfl rfl rfl ?_ ?_ ?_ ?_; (· kernel_rfl); (· simp); (· simp [Value.oneCell']); intro w1 K1; simp only [List.set, putL] at K1; have K2 := Lib.hid K1; clear K1 K; have K := K2; clear K2))
  refine shown hkC _ _ (by (try dsimp only); (exact ⟨sat.rd 1 (by repeat (with_reducible first | exact K.out | apply sat.alloc_any | apply sat.drew | apply sat.drewN)) rfl, Eq.trans (sat.rd 2 (by repeat (with_reducible first | exact K.out | apply sat.alloc_any | apply sat.drew | apply sat.drewN)) rfl 8) rfl⟩)) ?_; clear hkC kC hHeld; intro hHeld
  (try simp only [Act.put, p0, p1, p2])
  have K1 := K.out; have K2 := Lib.hid K1; clear K1 K; (try clear a0); (try clear l0); (try clear f0); (try clear a1); (try clear l1); (try clear f1); (try clear a2); (try clear l2); (try clear f2); (try clear a3); (try clear l3); (try clear f3); (try clear a4); (try clear l4); (try clear f4); (try clear a5); (try clear l5); (try clear f5); have K := K2; clear K2; (try have a0 := K.out.rd 0 rfl); (try have l0 := K.out.ltp 0 rfl); (try have f0 := K.out.fr 0 rfl); (try have a1 := K.out.rd 1 rfl); (try have l1 := K.out.ltp 1 rfl); (try have f1 := K.out.fr 1 rfl); (try have a2 := K.out.rd 2 rfl); (try have l2 := K.out.ltp 2 rfl); (try have f2 := K.out.fr 2 rfl); (try have a3 := K.out.rd 3 rfl); (try have l3 := K.out.ltp 3 rfl); (try have f3 := K.out.fr 3 rfl)
  refine wpAnyH_done (by kernel_rfl) (NoPanic.normal ?_) _
  rotate_left
  refine AllReadyH.cons (o := _) rfl (fun kC hkC => ?_) ?_
  go_simp
  refine shown hkC _ _ (by (try dsimp only); (exact ⟨sat.rd 1 (by repeat (with_reducible first | exact K.out | apply sat.alloc_any | apply sat.drew | apply sat.drewN)) rfl, Eq.trans (sat.rd 2 (by repeat (with_reducible first | exact K.out | apply sat.alloc_any | apply sat.drew | apply sat.drewN)) rfl 8) rfl⟩)) ?_; clear hkC kC hHeld; intro hHeld
  (try simp only [Act.put, p0, p1, p2])
  refine wpAnyH_ready (rs := [4]) (by kernel_rfl) (by simp) ?_
  refine AllReadyH.cons (o := _) rfl (fun kC hkC => ?_) AllReadyH.nil
  go_simp
  refine shown hkC _ _ (by (try dsimp only); (exact ⟨sat.rd 1 (by repeat (with_reducible first | exact K.out | apply sat.alloc_any | apply sat.drew | apply sat.drewN)) rfl, Eq.trans (sat.rd 2 (by repeat (with_reducible first | exact K.out | apply sat.alloc_any | apply sat.drew | apply sat.drewN)) rfl 8) rfl⟩)) ?_; clear hkC kC hHeld; intro hHeld
  (try simp only [Act.put, p0, p1, p2])
  refine wpAnyH_ready (rs := [13]) (by kernel_rfl) (by simp) ?_
  refine AllReadyH.cons (o := _) rfl (fun kC hkC => ?_) AllReadyH.nil
  (first | (refine rg_append_d (E := E) (d := some 63) 6 (by kernel_rfl) rfl rfl 51 11 88 Tryz.underlying37 deedInfoY (by repeat (with_reducible first | exact K.out | apply sat.alloc_any | apply sat.drew | apply sat.drewN)) rfl rfl (news := (DeedM.v ⟨who, k, y.moves, -1, .zero⟩)) rfl rfl (fun j u hj => alloc_news w1 (DeedM.v ⟨who, k, y.moves, -1, .zero⟩) 51 j u hj) ?_ Nat.one_pos ?_ ?_ ?_; (· simp [Value.oneCell']); (· simp only [maxLen]; omega); (· omega); intro p2 n2 c2 w1 K1; simp only [List.set] at K1; have K2 := Lib.hid K1; clear K1 K; have K := K2; clear K2))
  refine shown hkC _ _ (by (try dsimp only); (exact ⟨sat.rd 1 (by repeat (with_reducible first | exact K.out | apply sat.alloc_any | apply sat.drew | apply sat.drewN)) rfl, Eq.trans (sat.rd 2 (by repeat (with_reducible first | exact K.out | apply sat.alloc_any | apply sat.drew | apply sat.drewN)) rfl 8) rfl⟩)) ?_; clear hkC kC hHeld; intro hHeld
  (try simp only [Act.put, p0, p1, p2])
  refine tk 14 (some 64) ?_
  (try simp only [Act.put, p0, p1, p2])
  refine tk 15 (some 65) ?_
  (try simp only [Act.put, p0, p1, p2])
  refine wpAnyH_ready (rs := [16]) (by kernel_rfl) (by simp) ?_
  refine AllReadyH.cons (o := _) rfl (fun kC hkC => ?_) AllReadyH.nil
  (first | (refine rg_store (E := E) (d := none) 0 (by kernel_rfl) rfl rfl (by first | exact K.out | exact K.out.drew) rfl rfl rfl rfl ?_ ?_ ?_ ?_; (· kernel_rfl); (· simp); (· simp [Value.oneCell']); intro w1 K1; simp only [List.set, putL] at K1; have K2 := Lib.hid K1; clear K1 K; have K := K2; clear K2) | (refine rg_store (E := E) (d := none) 1 (by kernel_rfl) rfl rfl (by first | exact K.out | exact K.out.drew) rfl rfl rfl rfl ?_ ?_ ?_ ?_; (· kernel_rfl); (· simp); (· simp [Value.oneCell']); intro w1 K1; simp only [List.set, putL] at K1; have K2 := Lib.hid K1; clear K1 K; have K := K2; clear K2) | (refine rg_store (E := E) (d := none) 2 (by kernel_rfl) rfl rfl (by first | exact K.out | exact K.out.drew) rfl rfl rfl rfl ?_ ?_ ?_ ?_; (· kernel_rfl); (· simp); (· simp [Value.oneCell']); intro w1 K1; simp only [List.set, putL] at K1; have K2 := Lib.hid K1; clear K1 K; have K := K2; clear K2))
  refine shown hkC _ _ (by (try dsimp only); (exact ⟨sat.rd 1 (by repeat (with_reducible first | exact K.out | apply sat.alloc_any | apply sat.drew | apply sat.drewN)) rfl, Eq.trans (sat.rd 2 (by repeat (with_reducible first | exact K.out | apply sat.alloc_any | apply sat.drew | apply sat.drewN)) rfl 8) rfl⟩)) ?_; clear hkC kC hHeld; intro hHeld
  (try simp only [Act.put, p0, p1, p2])
  have K1 := K.out; have K2 := Lib.hid K1; clear K1 K; (try clear a0); (try clear l0); (try clear f0); (try clear a1); (try clear l1); (try clear f1); (try clear a2); (try clear l2); (try clear f2); (try clear a3); (try clear l3); (try clear f3); (try clear a4); (try clear l4); (try clear f4); (try clear a5); (try clear l5); (try clear f5); have K := K2; clear K2; (try have a0 := K.out.rd 0 rfl); (try have l0 := K.out.ltp 0 rfl); (try have f0 := K.out.fr 0 rfl); (try have a1 := K.out.rd 1 rfl); (try have l1 := K.out.ltp 1 rfl); (try have f1 := K.out.fr 1 rfl); (try have a2 := K.out.rd 2 rfl); (try have l2 := K.out.ltp 2 rfl); (try have f2 := K.out.fr 2 rfl); (try have a3 := K.out.rd 3 rfl); (try have l3 := K.out.ltp 3 rfl); (try have f3 := K.out.fr 3 rfl)
  refine wpAnyH_done (by kernel_rfl) (NoPanic.normal ?_) _
  rotate_left
  exact AllReadyH.nil
  all_goals
    go_wp2_with (first | ((with_reducible refine at_store ?_); refine st_store 2 K.out rfl rfl rfl rfl ?_ ?_ ?_ ?_; (· kernel_rfl); (· simp); (· simp [Value.oneCell']); intro w1 K1; simp only [List.set, putL] at K1; have K2 := Lib.hid K1; clear K1 K; (try clear a0); (try clear l0); (try clear a1); (try clear l1); (try clear a2); (try clear l2); have K := K2; clear K2; have a2 := K.out.rd 2 rfl; have l2 := K.out.ltp 2 rfl))
  all_goals
    go_ret
    have K1 : sat E _ _ := ((((((((tasks_begin who.toNat H1.out HN.out ((((((((K.out.pick 1 rfl).pick 7 rfl).pick 7 rfl).pick 6 rfl).pick 6 rfl).pick 6 rfl).pick 7 rfl).pick 7 rfl)).pick 5 rfl).pick 5 rfl).pick 2 rfl).pick 5 rfl).pick 5 rfl).pick 5 rfl).pick 6 rfl).drop
    obtain ⟨hq, _⟩ := Go.SepYtegdhojhnmgjgaaGreat.row_len (show sat E _ (rowA (.slice p2 n2 c2) _ _ _ _ :: _) from K1.pick 4 rfl)
    subst hq
    refine ⟨rfl, yardA_shut (bm := bm) (gt := gt) (gm := gm) (p := p2) (n := y.deeds.length + 1) (c := c2) (vs := vs.set who.toNat (.pointer (some ⟨gk, 0, none⟩))) ?_⟩
    rw [ints_set] at K1
    simp only [yardP, YardM.v, deedsA, List.length_set, List.length_append, List.length_cons, List.length_nil, List.flatMap_append, List.flatMap_cons, List.flatMap_nil, List.append_nil]
    exact K1
/-- A call begins, or is refused. -/
theorem ycall_calls (b : Nat) (y : YardM) (ho : y.ok) (who : Int) (k : CallM) (hdl : y.deeds.length < 100000) (hmv : y.moves < 1000000) (h : sat E w (yardA b y :: L)) : Calls Tryz.prog 19 #[.pointer (some ⟨b, 0, none⟩), .int .i64 who, .agg #[.int .i64 k.kind, .int .i64 k.fin, .int .u64 k.value, .int .i64 k.start]] w fun e w' => e = .returned (.int .i64 (y.call who k).2) ∧ sat E w' (yardA b (y.call who k).1 :: L) := by
  unfold YardM.call
  by_cases hbad : (!y.there who || !k.right) = true
  · rw [if_pos hbad]
    exact ycall_out b y ho who k hbad h
  · rw [if_neg hbad]
    have ht : y.there who = true := by cases q : y.there who <;> simp_all
    have hr : k.right = true := by cases q : k.right <;> simp_all
    by_cases hb : (y.task who).isSome = true
    · rw [if_pos hb]
      exact ycall_busy b y ho who k ht hr hb h
    · rw [if_neg hb]
      exact ycall_go b y ho who k hdl hmv ht hr (by cases q : y.task who <;> simp_all) h
end
end Go.Proofs.YtegdhojhnmgjgaaGreat
/- Threads that share cells (package yard): a step (Step). Conditions: as YardM.ok says. -/
namespace Go.SepYtegdhojhnmgjgaaGreat
open Go Go.RowKit
theorem row_put {E w : World} {L : List SA} {P : Program} (i : Nat) {ty : TypeId} (h : sat E w L) {g e' size n cap off : Nat} {xs vs : List Value} {v : Value}
    (e : L[i]? = some (rowA (.slice (some ⟨g, 0, none⟩) n cap) e' size n xs)) (hv : v.cells.toList = vs) (hs : (P.info? ty).map (·.size) = some vs.length) (hfit : off + vs.length ≤ xs.length) (h1 : ∀ u ∈ vs, u.oneCell' = true) :
    ∃ w', (storeVar ty ⟨g, off, none⟩ v).run P w = .ok () w' ∧ sat E w' (L.set i (rowA (.slice (some ⟨g, 0, none⟩) n cap) e' size n (putL xs off vs))) := by
  obtain ⟨hl, ⟨h0, _⟩ | ⟨g', cap', cur, h0, q1, q2, q3, q4, q5⟩⟩ := (h.pick i e).row_open
  · simp at h0
  · simp at h0
    obtain ⟨rfl, rfl⟩ := h0
    have hcur : (cur.toList.toArray) = cur := by simp
    rw [← hcur] at q5
    have hle : xs.length ≤ cur.toList.length := by rw [← q4]; simp; omega
    obtain ⟨w', hr, hsat, _⟩ := run_store_at (P := P) (ty := ty) (off := off) 0 q5 rfl hv hs (by omega) h1
    refine ⟨w', hr, ?_⟩
    simp only [List.set_cons_zero] at hsat
    refine (sat.row_shut ?_ q1 q2 ?_ ?_ hsat).perm (set_perm i L e).symm
    · rw [putL_length xs off vs hfit]; exact hl
    · rw [List.size_toArray, putL_length _ _ _ (by omega)]; simpa using q3
    · rw [putL_eq xs off vs hfit, putL_eq _ _ _ (by omega : off + vs.length ≤ cur.toList.length), ← q4]
      simp only [List.take_append, List.take_take, List.length_take, List.length_append]
      have hl2 : n * size = xs.length := hl.symm
      have hx2 : xs.length = min (n * size) cur.toList.length := by rw [← q4]; simp
      rw [← q4] at hfit hle
      simp only [List.length_take] at hfit hle
      rw [List.drop_take]
      simp only [Nat.min_eq_left (show off ≤ cur.toList.length by omega)]
      rw [Nat.min_eq_right (show off ≤ n * size by omega), Nat.min_eq_left (show off ≤ n * size by omega), List.take_of_length_le (l := vs) (by omega)]
theorem rg_store_row (i : Nat) {E w : World} {L : List SA} {P : Program} {ops : Array Oper} {Q : Exit → Act → World → Prop} {a : Act} {o : Oper} {Kc : Act → World → Prop} {ty : TypeId} {p x : Operand}
    (hw : Region.wanted o (yielded ops a.tmps) = true) {d : Option Tmp} (hd : o.dst = d) (ho : o.op = .store ty p x) (h : sat E w L) {g e' size n cap off : Nat} {xs vs : List Value} {v : Value}
    (hp : look a p = some (.pointer (some ⟨g, off, none⟩))) (hx : look a x = some v) (e : L[i]? = some (rowA (.slice (some ⟨g, 0, none⟩) n cap) e' size n xs)) (hv : valCells v = some vs)
    (hs : (P.info? ty).map (·.size) = some vs.length) (hfit : off + vs.length ≤ xs.length) (h1 : ∀ u ∈ vs, u.oneCell' = true)
    (k : ∀ w', sat E w' (L.set i (rowA (.slice (some ⟨g, 0, none⟩) n cap) e' size n (putL xs off vs))) → Kc (a.put d undef) w') :
    if Region.wanted o (yielded ops a.tmps) = true then Oper.wp P o a w Kc Q else Kc (a.put o.dst undef) w := by
  replace hp := look_eval hp
  replace hx := look_eval hx
  replace hv := valCells_cells hv
  obtain ⟨w', hr, hsat⟩ := row_put (P := P) (ty := ty) i h e hv hs hfit h1
  subst hd
  rw [if_pos hw]
  unfold Oper.wp execOp
  simp only [ho, hp, hx, Instr.storeAt, Instr.sureAddr, Sem.run_bind, Sem.run_pure, Result.andThen_ok, hr]
  exact k w' hsat
end Go.SepYtegdhojhnmgjgaaGreat
namespace Go.Proofs.YtegdhojhnmgjgaaGreat
open Go.RowKit Go.SepYtegdhojhnmgjgaaGreat
set_option maxRecDepth 100000
set_option maxHeartbeats 4000000
theorem v_len (d : DeedM) : d.v.length = 11 := rfl
theorem dd_stop : ∀ (l : List DeedM) (i : Nat), i < l.length → ∀ (m : Int) (q : ReplyM), putL (putL (l.flatMap DeedM.v) (i * 11 + 6) [.int .i64 m]) (i * 11 + 7) [.bool q.ok, .int .u64 q.value, .int .i64 q.stamp.lo, .int .i64 q.stamp.hi] = (l.modify i (fun d => { d with stop := m, reply := q })).flatMap DeedM.v
  | [], _, h, _, _ => by simp at h
  | e :: l, 0, _, m, q => by simp [putL, putL_nil, List.modify_cons]
  | e :: l, i + 1, h, m, q => by
    rw [List.modify_succ_cons, List.flatMap_cons, List.flatMap_cons, ← dd_stop l i (by simpa using h) m q, show (i + 1) * 11 + 6 = e.v.length + (i * 11 + 6) by rw [v_len]; omega, show (i + 1) * 11 + 7 = e.v.length + (i * 11 + 7) by rw [v_len]; omega, putL_app, putL_app]
theorem dd_stop2 : ∀ (l : List DeedM) (i : Nat), i < l.length → ∀ (m : Int) (q : ReplyM), putL (putL (l.flatMap DeedM.v) (i * 11 + 7) [.bool q.ok, .int .u64 q.value, .int .i64 q.stamp.lo, .int .i64 q.stamp.hi]) (i * 11 + 6) [.int .i64 m] = (l.modify i (fun d => { d with stop := m, reply := q })).flatMap DeedM.v
  | [], _, h, _, _ => by simp at h
  | e :: l, 0, _, m, q => by simp [putL, putL_nil, List.modify_cons]
  | e :: l, i + 1, h, m, q => by
    rw [List.modify_succ_cons, List.flatMap_cons, List.flatMap_cons, ← dd_stop2 l i (by simpa using h) m q, show (i + 1) * 11 + 6 = e.v.length + (i * 11 + 6) by rw [v_len]; omega, show (i + 1) * 11 + 7 = e.v.length + (i * 11 + 7) by rw [v_len]; omega, putL_app, putL_app]
theorem dd_flen (l : List DeedM) : (l.flatMap DeedM.v).length = l.length * 11 := fm_len v_len l
section
variable {E w : World} {L : List SA}
theorem ystep_nil (who : Int) (h : sat E w L) : Calls Tryz.prog 23 #[.pointer none, .int .i64 who] w fun e w' => e = .returned (.bool false) ∧ sat E w' L := by
  have K := Lib.hid h
  clear h
  go_enter Tryz.func23, Tryz.ntmps23
  go_wp2_with (first | (go_at_call 24; (with_reducible refine (ybusy_nil who _).mono ?_); rintro e w1 ⟨rfl, rfl⟩))
  go_ret
  exact ⟨rfl, K.out⟩
theorem ystep_off (b : Nat) (y : YardM) (ho : y.ok) (who : Int) (hb : y.busy who = false) (h : sat E w (yardA b y :: L)) : Calls Tryz.prog 23 #[.pointer (some ⟨b, 0, none⟩), .int .i64 who] w fun e w' => e = .returned (.bool false) ∧ sat E w' (yardA b y :: L) := by
  have K := Lib.hid h
  have TB := fun w' (h : sat E w' (yardA b y :: L)) => Lib.hid (ybusy_calls b y ho who h)
  rw [hb] at TB
  clear h
  go_enter Tryz.func23, Tryz.ntmps23
  go_wp2_with (first | (go_at_call 24; (with_reducible refine (TB _ K.out).out.mono ?_); rintro e w1 ⟨rfl, rfl⟩))
  go_ret
  exact ⟨rfl, K.out⟩
theorem tasks_end {vs : List Value} {ts : List (Option TaskM)} (i : Nat) (hi : i < ts.length) {g : Nat} {t : TaskM} (h : sat E w (taskA g t :: tasksA (vs.set i (.pointer none)) (ts.set i none) :: L)) : sat E w (tasksA (vs.set i (.pointer (some ⟨g, 0, none⟩))) (ts.set i (some t)) :: L) :=
  tasks_put i hi _ _ (taskO_put h)
theorem yardA_shut2 {b : Nat} {y : YardM} {bm gt gm nt nm : Nat} {p : Option Addr} {n c : Nat} {vs : List Value} (ht : nt = y.tasks.length) (hm : nm = y.mine.length)
    (h : sat E w (pt b (.cells [.int .i64 y.conf.th, .int .i64 y.conf.sl, .int .i64 y.conf.src, .int .i64 y.conf.dl, .pointer (some ⟨bm, 0, none⟩), .slice (some ⟨gt, 0, none⟩) nt nt, .slice p n c, .slice (some ⟨gm, 0, none⟩) nm nm, .int .i64 y.moves, .int .i64 y.now].toArray 95 (0, 0)) :: memA bm y.mem :: ptrsA gt vs :: tasksA vs y.tasks :: deedsA p n c y.deeds :: mineA gm y.mine :: L)) : sat E w (yardA b y :: L) := by
  subst ht hm
  exact yardA_shut h
/-- The parts of a yard of which thread i's call is laid apart. -/
theorem ystep_open {b : Nat} {y : YardM} (ho : y.ok) {who : Int} {t : TaskM} (ht : y.there who = true) (hk : y.task who = some t) (h : sat E w (yardA b y :: L)) :
    ∃ (bm gt gm gk : Nat) (p : Option Addr) (c : Nat) (vs : List Value), vs[who.toNat]? = some (.pointer (some ⟨gk, 0, none⟩)) ∧ vs.length = y.tasks.length ∧
      sat E w (yardP b bm gt gm (.slice p y.deeds.length c) y :: memA bm y.mem :: taskA gk t :: ptrsA gt vs :: tasksA (vs.set who.toNat (.pointer none)) (y.tasks.set who.toNat none) :: deedsA p y.deeds.length c y.deeds :: mineA gm y.mine :: L) := by
  obtain ⟨bm, gt, gm, p, n, c, vs, h⟩ := yardA_open h
  obtain ⟨hn, _⟩ := Go.SepYtegdhojhnmgjgaaGreat.row_len (h.pick 4 rfl)
  subst hn
  have hvl := sat_has (h.pick 3 rfl) (fun g => tasks_len vs y.tasks)
  obtain ⟨h1, h2⟩ := task_at ho ht
  obtain ⟨v, hv, hs⟩ := tasks_pick who.toNat h1 (h.pick 3 rfl)
  rw [List.getElem?_eq_getElem h1] at h2
  rw [Option.some.inj h2, hk] at hs
  obtain ⟨gk, hv2, hs2⟩ := taskO_some hs
  subst hv2
  exact ⟨bm, gt, gm, gk, p, c, vs, hv, hvl, (((((((hs2.pick 6 rfl).pick 6 rfl).pick 3 rfl).pick 6 rfl).pick 4 rfl).pick 6 rfl).pick 6 rfl)⟩
/-- A step that does not end the call. -/
theorem ystep_on (b : Nat) (y : YardM) (ho : y.ok) (who : Int) (t : TaskM) (ht : y.there who = true) (hk : y.task who = some t) (hmv : y.moves < 1000000) (hlog : y.mem.log.length < 1000000) (hov : (t.step y.mem y.now).1.over = false) (h : sat E w (yardA b y :: L)) :
    Calls Tryz.prog 23 #[.pointer (some ⟨b, 0, none⟩), .int .i64 who] w fun e w' => e = .returned (.bool true) ∧ sat E w' (yardA b (YardM.pass { y with mem := (t.step y.mem y.now).2, tasks := y.tasks.set who.toNat (some (t.step y.mem y.now).1), moves := y.moves + 1 } 1) :: L) := by
  have hb : y.busy who = true := by unfold YardM.busy; rw [ht, hk]; rfl
  have TB := Lib.hid (ybusy_calls b y ho who h)
  rw [hb] at TB
  obtain ⟨bm, gt, gm, gk, p, c, vs, hv, hvl, h⟩ := ystep_open ho ht hk h
  obtain ⟨h1, h2⟩ := task_at ho ht
  obtain ⟨t0, t1'⟩ := there_bd ht
  have t1 : who < (y.tasks.length : Int) := by have := ho.tl; omega
  have hwk : t.work.ok := (ho.task who.toNat t (by rw [h2, hk])).work.ok (by omega)
  have KS := fun w' (M : List SA) (h : sat E w' (taskA gk t :: memA bm y.mem :: M)) => Lib.hid (kstep2_calls gk bm t y.mem y.now hwk (by omega) h)
  rw [hov] at KS
  obtain ⟨m0, m1, n0, n1⟩ := And.intro ho.m0 (And.intro ho.m1 (And.intro ho.n0 ho.n1))
  have v1 : wrap64 (y.moves + 1) = y.moves + 1 := w64 (by omega) (by omega)
  generalize t.step y.mem y.now = r at *
  have K := Lib.hid h
  have HV := Lib.hid hv
  have x0 := h.rd 3 rfl who.toNat
  rw [hv] at x0
  have H1 := Lib.hid h1
  clear h hv hwk h2 h1 hlog hmv
  have PS := fun w' (h : sat E w' (yardA b { y with mem := r.2, tasks := y.tasks.set who.toNat (some r.1), moves := y.moves + 1 } :: L)) => Lib.hid (ypass_calls b { y with mem := r.2, tasks := y.tasks.set who.toNat (some r.1), moves := y.moves + 1 } n0 n1 1 h)
  have a0 := K.out.rd 0 rfl; have l0 := K.out.ltp 0 rfl
  go_enter Tryz.func23, Tryz.ntmps23
  go_wp2_with (first | (go_at_call 24; (with_reducible refine TB.out.mono ?_); rintro e w1 ⟨rfl, rfl⟩))
  clear x0
  refine wp_region_noPanic ?_
  refine wp_region_held_drew (S := (fun w' => (∀ j, w'.cell? ⟨b, j, none⟩ = (YardM.v y bm gt gm (.slice p y.deeds.length c))[j]?))) (by kernel_rfl) ?_ (fun hHeld => ?_)
  · ((try dsimp only); (exact sat.rd 0 (by repeat (with_reducible first | exact K.out | apply sat.alloc_any | apply sat.drew | apply sat.drewN)) rfl))
  refine tk 0 (some 18) ?_
  (try simp only [Act.put, p0, p1, p2])
  refine tk 1 (some 19) ?_
  (try simp only [Act.put, p0, p1, p2])
  refine tk 2 (some 20) ?_
  (try simp only [Act.put, p0, p1, p2])
  refine tk 3 (some 21) ?_
  (try simp only [Act.put, p0, p1, p2])
  refine tk 4 (some 22) ?_
  (try simp only [Act.put, p0, p1, p2])
  refine tk 5 (some 23) ?_
  (try simp only [Act.put, p0, p1, p2])
  refine tk 6 (some 24) ?_
  (try simp only [Act.put, p0, p1, p2])
  refine tk 7 (some 25) ?_
  (try simp only [Act.put, p0, p1, p2])
  refine tk 8 (some 26) ?_
  (try simp only [Act.put, p0, p1, p2])
  refine wpAnyH_ready (rs := [9]) (by kernel_rfl) (by simp) ?_
  refine AllReadyH.cons (o := _) rfl (fun kC hkC => ?_) AllReadyH.nil
  go_simp
  (first | (go_at_call 25; (with_reducible refine ((KS _ _ ((((((((show sat E _ _ from by iterate 4 (try (with_reducible first | exact K.out | apply sat.drew))).pick 6 rfl).pick 6 rfl).pick 6 rfl).pick 6 rfl).pick 4 rfl).pick 5 rfl).pick 6 rfl)).out).mono ?_); rintro e w1 ⟨rfl, K1⟩; replace K1 := (((((((K1.pick 6 rfl).pick 6 rfl).pick 6 rfl).pick 6 rfl).pick 4 rfl).pick 5 rfl).pick 6 rfl); have K2 := Lib.hid K1; clear K1 K; (try clear a0); (try clear l0); (try clear f0); (try clear a1); (try clear l1); (try clear f1); (try clear a2); (try clear l2); (try clear f2); (try clear a3); (try clear l3); (try clear f3); (try clear a4); (try clear l4); (try clear f4); (try clear a5); (try clear l5); (try clear f5); have K := K2; clear K2; (try have a0 := K.out.rd 0 rfl); (try have l0 := K.out.ltp 0 rfl); (try have f0 := K.out.fr 0 rfl); (try have a1 := K.out.rd 1 rfl); (try have l1 := K.out.ltp 1 rfl); (try have f1 := K.out.fr 1 rfl); (try have a2 := K.out.rd 2 rfl); (try have l2 := K.out.ltp 2 rfl); (try have f2 := K.out.fr 2 rfl); (try have a3 := K.out.rd 3 rfl); (try have l3 := K.out.ltp 3 rfl); (try have f3 := K.out.fr 3 rfl)))
  refine shown hkC _ _ (by (try dsimp only); (exact sat.rd 0 (by repeat (with_reducible first | exact K.out | apply sat.alloc_any | apply sat.drew | apply sat.drewN)) rfl)) ?_; clear hkC kC hHeld; intro hHeld
  (try simp only [Act.put, p0, p1, p2])
  refine wpAnyH_done (by kernel_rfl) (NoPanic.normal ?_) _
  go_wp2_with (first | ((with_reducible refine at_store ?_); refine st_store 0 K.out rfl rfl rfl rfl ?_ ?_ ?_ ?_; (· kernel_rfl); (· simp); (· simp [Value.oneCell']); intro w1 K1; simp only [List.set, putL] at K1; have K2 := Lib.hid K1; clear K1 K; (try clear a0); (try clear l0); (try clear a1); (try clear l1); (try clear a2); (try clear l2); have K := K2; clear K2; have a0 := K.out.rd 0 rfl; have l0 := K.out.ltp 0 rfl))
  have q := (((((((tasks_end who.toNat H1.out ((((((((RowKit.Hid.out K).pick 6 rfl).pick 6 rfl).pick 5 rfl).pick 4 rfl).pick 4 rfl).pick 6 rfl).pick 6 rfl)).pick 5 rfl).pick 5 rfl).pick 2 rfl).pick 5 rfl).pick 5 rfl).pick 5 rfl)
  rw [set_self _ _ HV.out] at q
  have K2 := yardA_shut2 (y := { y with mem := r.2, tasks := y.tasks.set who.toNat (some r.1), moves := y.moves + 1 }) (by simp) rfl q
  clear q
  clear K
  have K := Lib.hid K2
  clear K2
  go_wp2_with (first | (go_at_call 22; (with_reducible refine (PS _ K.out).out.mono ?_); rintro e w1 ⟨rfl, K1⟩; clear K; have K := Lib.hid K1; clear K1))
  go_ret
  exact ⟨rfl, K.out⟩
/-- A step that ends the call. -/
theorem ystep_end (b : Nat) (y : YardM) (ho : y.ok) (who : Int) (t : TaskM) (ht : y.there who = true) (hk : y.task who = some t) (hmv : y.moves < 1000000) (hlog : y.mem.log.length < 1000000) (hov : (t.step y.mem y.now).1.over = true) (h : sat E w (yardA b y :: L)) :
    Calls Tryz.prog 23 #[.pointer (some ⟨b, 0, none⟩), .int .i64 who] w fun e w' => e = .returned (.bool true) ∧ sat E w' (yardA b (YardM.pass { y with mem := (t.step y.mem y.now).2, tasks := y.tasks.set who.toNat none, deeds := y.deeds.modify (getI y.mine who).toNat (fun d => { d with stop := y.moves, reply := (t.step y.mem y.now).1.reply }), moves := y.moves + 1 } 1) :: L) := by
  have hb : y.busy who = true := by unfold YardM.busy; rw [ht, hk]; rfl
  have TB := Lib.hid (ybusy_calls b y ho who h)
  rw [hb] at TB
  obtain ⟨bm, gt, gm, gk, p, c, vs, hv, hvl, h⟩ := ystep_open ho ht hk h
  obtain ⟨h1, h2⟩ := task_at ho ht
  obtain ⟨t0, t1'⟩ := there_bd ht
  have t1 : who < (y.tasks.length : Int) := by have := ho.tl; omega
  have t2 : who < (y.mine.length : Int) := by have := ho.ml; omega
  have hmi := ho.mine who.toNat t (by rw [h2, hk])
  rw [Int.toNat_of_nonneg t0] at hmi
  obtain ⟨i0, i1⟩ := hmi
  have hwk : t.work.ok := (ho.task who.toNat t (by rw [h2, hk])).work.ok (by omega)
  obtain ⟨gd, hgd, _⟩ := Go.SepYtegdhojhnmgjgaaGreat.row_some (h.pick 5 rfl) (by omega)
  subst hgd
  have KS := fun w' (M : List SA) (h : sat E w' (taskA gk t :: memA bm y.mem :: M)) => Lib.hid (kstep2_calls gk bm t y.mem y.now hwk (by omega) h)
  rw [hov] at KS
  obtain ⟨m0, m1, n0, n1⟩ := And.intro ho.m0 (And.intro ho.m1 (And.intro ho.n0 ho.n1))
  have v1 : wrap64 (y.moves + 1) = y.moves + 1 := w64 (by omega) (by omega)
  generalize t.step y.mem y.now = r at *
  have KR := fun w' (M : List SA) (h : sat E w' (taskA gk r.1 :: M)) => Lib.hid (kreply_calls gk r.1 h)
  have K := Lib.hid h
  have x0 := h.rd 3 rfl who.toNat
  rw [hv] at x0
  have HN := Lib.hid (show (ints y.mine)[who.toNat]? = some (.int .i64 (getI y.mine who)) by
    have q : who.toNat < y.mine.length := by omega
    simp [ints, getI, List.getD_eq_getElem?_getD, q])
  clear h hv hwk h2 hlog hmv
  have PS := fun w' (h : sat E w' (yardA b { y with mem := r.2, tasks := y.tasks.set who.toNat none, deeds := y.deeds.modify (getI y.mine who).toNat (fun d => { d with stop := y.moves, reply := r.1.reply }), moves := y.moves + 1 } :: L)) => Lib.hid (ypass_calls b { y with mem := r.2, tasks := y.tasks.set who.toNat none, deeds := y.deeds.modify (getI y.mine who).toNat (fun d => { d with stop := y.moves, reply := r.1.reply }), moves := y.moves + 1 } n0 n1 1 h)
  have ds := And.intro (dd_stop y.deeds (getI y.mine who).toNat (by omega) y.moves r.1.reply) (dd_stop2 y.deeds (getI y.mine who).toNat (by omega) y.moves r.1.reply)
  simp only [putL_one] at ds
  have DS := Lib.hid ds
  clear ds
  have hfl := dd_flen y.deeds
  have hil : (getI y.mine who).toNat < y.deeds.length := by omega
  generalize hid : getI y.mine who = id at *
  generalize r.1.reply = q at *
  have a0 := K.out.rd 0 rfl; have l0 := K.out.ltp 0 rfl
  go_enter Tryz.func23, Tryz.ntmps23
  go_wp2_with (first | (go_at_call 24; (with_reducible refine TB.out.mono ?_); rintro e w1 ⟨rfl, rfl⟩))
  clear x0
  refine wp_region_noPanic ?_
  refine wp_region_held_drew (S := (fun w' => (∀ j, w'.cell? ⟨b, j, none⟩ = (YardM.v y bm gt gm (.slice (some ⟨gd, 0, none⟩) y.deeds.length c))[j]?))) (by kernel_rfl) ?_ (fun hHeld => ?_)
  · ((try dsimp only); (exact sat.rd 0 (by repeat (with_reducible first | exact K.out | apply sat.alloc_any | apply sat.drew | apply sat.drewN)) rfl))
  refine tk 0 (some 18) ?_
  (try simp only [Act.put, p0, p1, p2])
  refine tk 1 (some 19) ?_
  (try simp only [Act.put, p0, p1, p2])
  refine tk 2 (some 20) ?_
  (try simp only [Act.put, p0, p1, p2])
  refine tk 3 (some 21) ?_
  (try simp only [Act.put, p0, p1, p2])
  refine tk 4 (some 22) ?_
  (try simp only [Act.put, p0, p1, p2])
  refine tk 5 (some 23) ?_
  (try simp only [Act.put, p0, p1, p2])
  refine tk 6 (some 24) ?_
  (try simp only [Act.put, p0, p1, p2])
  refine tk 7 (some 25) ?_
  (try simp only [Act.put, p0, p1, p2])
  refine tk 8 (some 26) ?_
  (try simp only [Act.put, p0, p1, p2])
  refine wpAnyH_ready (rs := [9]) (by kernel_rfl) (by simp) ?_
  refine AllReadyH.cons (o := _) rfl (fun kC hkC => ?_) AllReadyH.nil
  go_simp
  (first | (go_at_call 25; (with_reducible refine ((KS _ _ ((((((((show sat E _ _ from by iterate 4 (try (with_reducible first | exact K.out | apply sat.drew))).pick 6 rfl).pick 6 rfl).pick 6 rfl).pick 6 rfl).pick 4 rfl).pick 5 rfl).pick 6 rfl)).out).mono ?_); rintro e w1 ⟨rfl, K1⟩; replace K1 := (((((((K1.pick 6 rfl).pick 6 rfl).pick 6 rfl).pick 6 rfl).pick 4 rfl).pick 5 rfl).pick 6 rfl); have K2 := Lib.hid K1; clear K1 K; (try clear a0); (try clear l0); (try clear f0); (try clear a1); (try clear l1); (try clear f1); (try clear a2); (try clear l2); (try clear f2); (try clear a3); (try clear l3); (try clear f3); (try clear a4); (try clear l4); (try clear f4); (try clear a5); (try clear l5); (try clear f5); have K := K2; clear K2; (try have a0 := K.out.rd 0 rfl); (try have l0 := K.out.ltp 0 rfl); (try have f0 := K.out.fr 0 rfl); (try have a1 := K.out.rd 1 rfl); (try have l1 := K.out.ltp 1 rfl); (try have f1 := K.out.fr 1 rfl); (try have a2 := K.out.rd 2 rfl); (try have l2 := K.out.ltp 2 rfl); (try have f2 := K.out.fr 2 rfl); (try have a3 := K.out.rd 3 rfl); (try have l3 := K.out.ltp 3 rfl); (try have f3 := K.out.fr 3 rfl)))
  refine shown hkC _ _ (by (try dsimp only); (exact sat.rd 0 (by repeat (with_reducible first | exact K.out | apply sat.alloc_any | apply sat.drew | apply sat.drewN)) rfl)) ?_; clear hkC kC hHeld; intro hHeld
  (try simp only [Act.put, p0, p1, p2])
  refine wpAnyH_done (by kernel_rfl) (NoPanic.normal ?_) _
  go_wp2_with fail
  refine wp_region_noPanic ?_
  refine wp_region_held_drew (S := (fun w' => (∀ j, w'.cell? ⟨b, j, none⟩ = (YardM.v y bm gt gm (.slice (some ⟨gd, 0, none⟩) y.deeds.length c))[j]?) ∧ w'.cell? ⟨gm, who.toNat, none⟩ = some (.int .i64 id))) (by kernel_rfl) ?_ (fun hHeld => ?_)
  · ((try dsimp only); (exact ⟨sat.rd 0 (by repeat (with_reducible first | exact K.out | apply sat.alloc_any | apply sat.drew | apply sat.drewN)) rfl, Eq.trans (sat.rd 6 (by repeat (with_reducible first | exact K.out | apply sat.alloc_any | apply sat.drew | apply sat.drewN)) rfl who.toNat) HN.out⟩))
  refine tk 0 (some 28) ?_
  (try simp only [Act.put, p0, p1, p2])
  refine tk 1 (some 29) ?_
  (try simp only [Act.put, p0, p1, p2])
  refine tk 2 (some 30) ?_
  (try simp only [Act.put, p0, p1, p2])
  refine tk 3 (some 31) ?_
  (try simp only [Act.put, p0, p1, p2])
  refine tk 4 (some 32) ?_
  (try simp only [Act.put, p0, p1, p2])
  refine tk 5 (some 33) ?_
  (try simp only [Act.put, p0, p1, p2])
  refine tk 6 (some 34) ?_
  (try simp only [Act.put, p0, p1, p2])
  refine tk 7 (some 35) ?_
  (try simp only [Act.put, p0, p1, p2])
  refine tk 8 (some 36) ?_
  (try simp only [Act.put, p0, p1, p2])
  refine tk 9 (some 37) ?_
  (try simp only [Act.put, p0, p1, p2])
  refine tk 10 (some 38) ?_
  (try simp only [Act.put, p0, p1, p2])
  refine tk 11 (some 39) ?_
  (try simp only [Act.put, p0, p1, p2])
  refine tk 12 (some 6) ?_
  (try simp only [Act.put, p0, p1, p2])
  refine wpAnyH_done (by kernel_rfl) (NoPanic.normal ?_) _
  go_wp2_with fail
  refine wp_region_noPanic ?_
  refine wp_region_held_drew (S := (fun w' => (∀ j, w'.cell? ⟨b, j, none⟩ = (YardM.v y bm gt gm (.slice (some ⟨gd, 0, none⟩) y.deeds.length c))[j]?))) (by kernel_rfl) ?_ (fun hHeld => ?_)
  · ((try dsimp only); (exact sat.rd 0 (by repeat (with_reducible first | exact K.out | apply sat.alloc_any | apply sat.drew | apply sat.drewN)) rfl))
  refine tk 0 (some 40) ?_
  (try simp only [Act.put, p0, p1, p2])
  refine tk 1 (some 41) ?_
  (try simp only [Act.put, p0, p1, p2])
  refine tk 2 (some 42) ?_
  (try simp only [Act.put, p0, p1, p2])
  refine tk 3 (some 43) ?_
  (try simp only [Act.put, p0, p1, p2])
  refine tk 4 (some 44) ?_
  (try simp only [Act.put, p0, p1, p2])
  refine tk 5 (some 45) ?_
  (try simp only [Act.put, p0, p1, p2])
  refine tk 6 (some 46) ?_
  (try simp only [Act.put, p0, p1, p2])
  refine wpAnyH_ready (rs := [7]) (by kernel_rfl) (by simp) ?_
  refine AllReadyH.cons (o := _) rfl (fun kC hkC => ?_) AllReadyH.nil
  go_simp
  (first | (go_at_call 26; (with_reducible refine ((KR _ _ ((show sat E _ _ from by iterate 4 (try (with_reducible first | exact K.out | apply sat.drew))).pick 2 rfl)).out).mono ?_); rintro e w1 ⟨rfl, K1⟩; replace K1 := K1.uncab; have K2 := Lib.hid K1; clear K1 K; (try clear a0); (try clear l0); (try clear f0); (try clear a1); (try clear l1); (try clear f1); (try clear a2); (try clear l2); (try clear f2); (try clear a3); (try clear l3); (try clear f3); (try clear a4); (try clear l4); (try clear f4); (try clear a5); (try clear l5); (try clear f5); have K := K2; clear K2; (try have a0 := K.out.rd 0 rfl); (try have l0 := K.out.ltp 0 rfl); (try have f0 := K.out.fr 0 rfl); (try have a1 := K.out.rd 1 rfl); (try have l1 := K.out.ltp 1 rfl); (try have f1 := K.out.fr 1 rfl); (try have a2 := K.out.rd 2 rfl); (try have l2 := K.out.ltp 2 rfl); (try have f2 := K.out.fr 2 rfl); (try have a3 := K.out.rd 3 rfl); (try have l3 := K.out.ltp 3 rfl); (try have f3 := K.out.fr 3 rfl)))
  refine shown hkC _ _ (by (try dsimp only); (exact sat.rd 0 (by repeat (with_reducible first | exact K.out | apply sat.alloc_any | apply sat.drew | apply sat.drewN)) rfl)) ?_; clear hkC kC hHeld; intro hHeld
  (try simp only [Act.put, p0, p1, p2])
  refine tk 8 (some 48) ?_
  (try simp only [Act.put, p0, p1, p2])
  refine tk 9 (some 49) ?_
  (try simp only [Act.put, p0, p1, p2])
  refine wpAnyH_ready (rs := [10]) (by kernel_rfl) (by simp) ?_
  refine AllReadyH.cons (o := _) rfl (fun kC hkC => ?_) AllReadyH.nil
  (refine rg_store_row (E := E) (d := none) 5 (by kernel_rfl) rfl rfl (by iterate 4 (try (with_reducible first | exact K.out | apply sat.drew))) rfl rfl rfl rfl ?_ ?_ ?_ ?_; (· kernel_rfl); (· first | (rw [dd_flen]; show _ + 1 ≤ _; omega) | (rw [dd_flen]; show _ + 4 ≤ _; omega) | (rw [putL_length _ _ _ (by rw [dd_flen]; show _ + 1 ≤ _; omega), dd_flen]; show _ + 4 ≤ _; omega) | (rw [putL_length _ _ _ (by rw [dd_flen]; show _ + 4 ≤ _; omega), dd_flen]; show _ + 1 ≤ _; omega)); (· simp [Value.oneCell']); intro w1 K1; simp only [List.set] at K1; have K2 := Lib.hid K1; clear K1 K; (try clear a0); (try clear l0); (try clear f0); (try clear a1); (try clear l1); (try clear f1); (try clear a2); (try clear l2); (try clear f2); (try clear a3); (try clear l3); (try clear f3); (try clear a4); (try clear l4); (try clear f4); (try clear a5); (try clear l5); (try clear f5); have K := K2; clear K2; (try have a0 := K.out.rd 0 rfl); (try have l0 := K.out.ltp 0 rfl); (try have f0 := K.out.fr 0 rfl); (try have a1 := K.out.rd 1 rfl); (try have l1 := K.out.ltp 1 rfl); (try have f1 := K.out.fr 1 rfl); (try have a2 := K.out.rd 2 rfl); (try have l2 := K.out.ltp 2 rfl); (try have f2 := K.out.fr 2 rfl); (try have a3 := K.out.rd 3 rfl); (try have l3 := K.out.ltp 3 rfl); (try have f3 := K.out.fr 3 rfl))
  refine shown hkC _ _ (by (try dsimp only); (exact sat.rd 0 (by repeat (with_reducible first | exact K.out | apply sat.alloc_any | apply sat.drew | apply sat.drewN)) rfl)) ?_; clear hkC kC hHeld; intro hHeld
  (try simp only [Act.put, p0, p1, p2])
  refine tk 11 (some 50) ?_
  (try simp only [Act.put, p0, p1, p2])
  refine tk 12 (some 51) ?_
  (try simp only [Act.put, p0, p1, p2])
  refine wpAnyH_ready (rs := [13]) (by kernel_rfl) (by simp) ?_
  refine AllReadyH.cons (o := _) rfl (fun kC hkC => ?_) AllReadyH.nil
  (refine rg_store_row (E := E) (d := none) 5 (by kernel_rfl) rfl rfl (by iterate 4 (try (with_reducible first | exact K.out | apply sat.drew))) rfl rfl rfl rfl ?_ ?_ ?_ ?_; (· kernel_rfl); (· first | (rw [dd_flen]; show _ + 1 ≤ _; omega) | (rw [dd_flen]; show _ + 4 ≤ _; omega) | (rw [putL_length _ _ _ (by rw [dd_flen]; show _ + 1 ≤ _; omega), dd_flen]; show _ + 4 ≤ _; omega) | (rw [putL_length _ _ _ (by rw [dd_flen]; show _ + 4 ≤ _; omega), dd_flen]; show _ + 1 ≤ _; omega)); (· simp [Value.oneCell']); intro w1 K1; simp only [List.set] at K1; have K2 := Lib.hid K1; clear K1 K; (try clear a0); (try clear l0); (try clear f0); (try clear a1); (try clear l1); (try clear f1); (try clear a2); (try clear l2); (try clear f2); (try clear a3); (try clear l3); (try clear f3); (try clear a4); (try clear l4); (try clear f4); (try clear a5); (try clear l5); (try clear f5); have K := K2; clear K2; (try have a0 := K.out.rd 0 rfl); (try have l0 := K.out.ltp 0 rfl); (try have f0 := K.out.fr 0 rfl); (try have a1 := K.out.rd 1 rfl); (try have l1 := K.out.ltp 1 rfl); (try have f1 := K.out.fr 1 rfl); (try have a2 := K.out.rd 2 rfl); (try have l2 := K.out.ltp 2 rfl); (try have f2 := K.out.fr 2 rfl); (try have a3 := K.out.rd 3 rfl); (try have l3 := K.out.ltp 3 rfl); (try have f3 := K.out.fr 3 rfl))
  refine shown hkC _ _ (by (try dsimp only); (exact sat.rd 0 (by repeat (with_reducible first | exact K.out | apply sat.alloc_any | apply sat.drew | apply sat.drewN)) rfl)) ?_; clear hkC kC hHeld; intro hHeld
  (try simp only [Act.put, p0, p1, p2])
  refine wpAnyH_done (by kernel_rfl) (NoPanic.normal ?_) _
  all_goals
    go_wp2_with (first | ((with_reducible refine at_store ?_); refine st_store 0 K.out rfl rfl rfl rfl ?_ ?_ ?_ ?_; (· kernel_rfl); (· simp); (· simp [Value.oneCell']); intro w1 K1; simp only [List.set, putL] at K1; have K2 := Lib.hid K1; clear K1 K; (try clear a0); (try clear l0); (try clear a1); (try clear l1); (try clear a2); (try clear l2); have K := K2; clear K2; have a0 := K.out.rd 0 rfl; have l0 := K.out.ltp 0 rfl) | ((with_reducible refine at_store ?_); refine st_store 3 K.out rfl rfl rfl rfl ?_ ?_ ?_ ?_; (· kernel_rfl); (· show _ + 1 ≤ _; omega); (· simp [Value.oneCell']); intro w1 K1; simp only [List.set, putL_one] at K1; have K2 := Lib.hid K1; clear K1 K; (try clear a0); (try clear l0); (try clear a1); (try clear l1); (try clear a2); (try clear l2); have K := K2; clear K2; have a0 := K.out.rd 0 rfl; have l0 := K.out.ltp 0 rfl))
    have q1 := (((((((((RowKit.Hid.out K).pick 6 rfl).pick 6 rfl).pick 6 rfl).pick 6 rfl).pick 5 rfl).pick 5 rfl).pick 6 rfl)).drop
    first | rw [DS.out.1] at q1 | rw [DS.out.2] at q1
    have el : (y.deeds.modify id.toNat (fun d => { d with stop := y.moves, reply := q })).length = y.deeds.length := List.length_modify _ _ _
    rw [← el] at q1
    have K2 := yardA_shut2 (y := { y with mem := r.2, tasks := y.tasks.set who.toNat none, deeds := y.deeds.modify id.toNat (fun d => { d with stop := y.moves, reply := q }), moves := y.moves + 1 }) (by simp) rfl q1
    clear q1 K el
    have K := Lib.hid K2
    clear K2
    go_wp2_with (first | (go_at_call 22; (with_reducible refine (PS _ K.out).out.mono ?_); rintro e w1 ⟨rfl, K1⟩; clear K; have K := Lib.hid K1; clear K1))
    go_ret
    exact ⟨rfl, K.out⟩
theorem ystep_calls (b : Nat) (y : YardM) (ho : y.ok) (who : Int) (hmv : y.moves < 1000000) (hlog : y.mem.log.length < 1000000) (h : sat E w (yardA b y :: L)) :
    Calls Tryz.prog 23 #[.pointer (some ⟨b, 0, none⟩), .int .i64 who] w fun e w' => e = .returned (.bool (y.step who).2) ∧ sat E w' (yardA b (y.step who).1 :: L) := by
  unfold YardM.step
  cases hb : y.busy who with
  | false => exact ystep_off b y ho who hb h
  | true =>
    have hb' : (y.there who && (y.task who).isSome) = true := hb
    rw [Bool.and_eq_true] at hb'
    obtain ⟨ht, hk⟩ := hb'
    obtain ⟨t, hk⟩ := Option.isSome_iff_exists.1 hk
    rw [hk]
    simp only [Bool.not_true, Bool.false_eq_true, if_false]
    cases hov : (t.step y.mem y.now).1.over with
    | false => exact ystep_on b y ho who t ht hk hmv hlog hov h
    | true =>
      have q := ystep_end b y ho who t ht hk hmv hlog hov h
      simpa only [List.set_set, if_true] using q
end
end Go.Proofs.YtegdhojhnmgjgaaGreat
