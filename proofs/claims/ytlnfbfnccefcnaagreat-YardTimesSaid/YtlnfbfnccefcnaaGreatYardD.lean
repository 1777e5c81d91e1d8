/- Threads that share cells (package yard): a call begins (Call). Conditions: as YardM.ok says. -/
import Derived.Test.YtlnfbfnccefcnaaGreatYardC
namespace Go.SepYtlnfbfnccefcnaaGreat
open Go Go.RowKit
theorem alloc_news (w : World) (l : List Value) (t : TypeId) (j : Nat) (u : Value) (hj : l[j]? = some u) : (w.alloc (.cells l.toArray t)).cell? ⟨w.heap.size, 0 + j, none⟩ = some u := by
  rw [Nat.zero_add, World.cell?_alloc_at _ _ _ _ rfl]
  simpa using hj
theorem rg_append_d {E w : World} {L : List SA} {P : Program} (i : Nat) {ops : Array Oper} {a : Act} {o : Oper} {Kc : Act → World → Prop} {Q : Exit → Act → World → Prop} {s x : Operand} {t : TypeId}
    (hw : Region.wanted o (yielded ops a.tmps) = true) {d : Option Tmp} (hd : o.dst = d) (ho : o.op = .call { callee := .builtin .append, args := #[s, x], argTypes := #[t, t] })
    (e size bytes : Nat) (ht : P.underlying t = some (.slice e)) (hi : ∃ q z, P.info? e = some q ∧ q.zero = some z ∧ q.size = size ∧ q.bytes = bytes ∧ z.cells.size = size)
    (h : sat E w L) {v : Value} {n : Nat} {xs : List Value} (hs : look a s = some v) (hL : L[i]? = some (rowA v e size n xs))
    {g m c : Nat} {news : List Value} (hx : look a x = some (.slice (some ⟨g, 0, none⟩) m c)) (hl : news.length = m * size) (hnews : ∀ j u, news[j]? = some u → w.cell? ⟨g, 0 + j, none⟩ = some u) (h1 : ∀ u ∈ news, u.oneCell' = true) (hm : 0 < m)
    (h63 : n + m ≤ maxLen) (hbytes : (n + m) * bytes ≤ 140737488355328)
    (k : ∀ p1 n1 c1 w', sat E w' (L.set i (rowA (.slice p1 n1 c1) e size (n + m) (xs ++ news))) → Kc (a.put d (.slice p1 n1 c1)) w') :
    if Region.wanted o (yielded ops a.tmps) = true then Oper.wp P o a w Kc Q else Kc (a.put o.dst undef) w := by
  subst hd
  exact rg_append i hw ho e size bytes ht hi h (look_eval hs) hL (look_eval hx) hl hnews h1 hm h63 hbytes k
end Go.SepYtlnfbfnccefcnaaGreat
namespace Go.Proofs.YtlnfbfnccefcnaaGreat
open Go.RowKit Go.SepYtlnfbfnccefcnaaGreat
set_option linter.unusedSimpArgs false
set_option linter.unusedVariables false
set_option maxRecDepth 100000
set_option maxHeartbeats 4000000
section
variable {E w : World} {L : List SA}
theorem ycall_nil (who : Int) (k : CallM) (h : sat E w L) : Calls Tryz.prog 10 #[.pointer none, .int .i64 who, .agg #[.int .i64 k.kind, .int .i64 k.fin, .int .u64 k.value, .int .i64 k.start]] w fun e w' => e = .returned (.int .i64 1) ∧ sat E w' L := by
  have K := Lib.hid h
  clear h
  go_enter Tryz.func10, Tryz.ntmps10
  go_wp2_with (first | ((with_reducible refine at_box ?_); refine st_boxf K.out rfl rfl (fun _ => rfl) ?_; intro g5 w1 K1; have K2 := Lib.hid K1; clear K1 K; (try clear a0); (try clear l0); (try clear a1); (try clear l1); (try clear a2); (try clear l2); have K := K2; clear K2; have a0 := K.out.rd 0 rfl; have l0 := K.out.ltp 0 rfl) | (go_at_call 24; (with_reducible refine (ythere_nil who _).mono ?_); rintro e w1 ⟨rfl, rfl⟩))
  go_ret
  exact ⟨rfl, K.out.drop⟩
theorem ints_set (l : List Int) (i : Nat) (x : Int) : (ints l).set i (.int .i64 x) = ints (l.set i x) := by simp [ints]
theorem ycall_out (b : Nat) (y : YardM) (ho : y.ok) (who : Int) (k : CallM) (hbad : (!y.there who || !k.right) = true) (h : sat E w (yardA b y :: L)) : Calls Tryz.prog 10 #[.pointer (some ⟨b, 0, none⟩), .int .i64 who, .agg #[.int .i64 k.kind, .int .i64 k.fin, .int .u64 k.value, .int .i64 k.start]] w fun e w' => e = .returned (.int .i64 1) ∧ sat E w' (yardA b y :: L) := by
  have K := Lib.hid h
  clear h
  have TH := fun w' (M : List SA) (h : sat E w' (yardA b y :: M)) => Lib.hid (ythere_calls b y who h)
  have CR := fun w' => Lib.hid (cright_calls k w')
  cases ht : y.there who with
  | false =>
    rw [ht] at TH
    go_enter Tryz.func10, Tryz.ntmps10
    go_wp2_with (first | ((with_reducible refine at_box ?_); refine st_boxf K.out rfl rfl (fun _ => rfl) ?_; intro g5 w1 K1; have K2 := Lib.hid K1; clear K1 K; (try clear a0); (try clear l0); (try clear a1); (try clear l1); (try clear a2); (try clear l2); have K := K2; clear K2; have a0 := K.out.rd 0 rfl; have l0 := K.out.ltp 0 rfl) | (go_at_call 24; (with_reducible refine (TH _ _ (K.out.pick 1 rfl)).out.mono ?_); rintro e w1 ⟨rfl, rfl⟩))
    go_ret
    exact ⟨rfl, K.out.drop⟩
  | true =>
    rw [ht] at TH
    have hr : k.right = false := by rw [ht] at hbad; simpa using hbad
    rw [hr] at CR
    go_enter Tryz.func10, Tryz.ntmps10
    go_wp2_with (first | ((with_reducible refine at_box ?_); refine st_boxf K.out rfl rfl (fun _ => rfl) ?_; intro g5 w1 K1; have K2 := Lib.hid K1; clear K1 K; (try clear a0); (try clear l0); (try clear a1); (try clear l1); (try clear a2); (try clear l2); have K := K2; clear K2; have a0 := K.out.rd 0 rfl; have l0 := K.out.ltp 0 rfl) | (go_at_call 24; (with_reducible refine (TH _ _ (K.out.pick 1 rfl)).out.mono ?_); rintro e w1 ⟨rfl, rfl⟩) | (go_at_call 25; (with_reducible refine ((CR _).out).mono ?_); rintro e w1 ⟨rfl, hb⟩; have K1 := sat.grown (by repeat (with_reducible first | exact K.out | apply sat.alloc_any | apply sat.drew | apply sat.drewN)) hb; clear hb; have K2 := Lib.hid K1; clear K1 K; (try clear a0); (try clear l0); (try clear a1); (try clear l1); (try clear a2); (try clear l2); have K := K2; clear K2; have a0 := K.out.rd 0 rfl; have l0 := K.out.ltp 0 rfl))
    go_ret
    exact ⟨rfl, K.out.drop⟩
theorem there_bd {y : YardM} {who : Int} (h : y.there who = true) : 0 ≤ who ∧ who < y.conf.th := by
  have h' : (decide (0 ≤ who) && decide (who < y.conf.th)) = true := h
  rw [Bool.and_eq_true, decide_eq_true_eq, decide_eq_true_eq] at h'
  exact h'
theorem ycall_busy (b : Nat) (y : YardM) (ho : y.ok) (who : Int) (k : CallM) (ht : y.there who = true) (hr : k.right = true) (hb : (y.task who).isSome = true) (h : sat E w (yardA b y :: L)) : Calls Tryz.prog 10 #[.pointer (some ⟨b, 0, none⟩), .int .i64 who, .agg #[.int .i64 k.kind, .int .i64 k.fin, .int .u64 k.value, .int .i64 k.start]] w fun e w' => e = .returned (.int .i64 2) ∧ sat E w' (yardA b y :: L) := by
  have K0 := Lib.hid h
  obtain ⟨bm, gt, gm, p, n, c, vs, h⟩ := yardA_open h
  have TH := fun w' (M : List SA) (h : sat E w' (yardA b y :: M)) => Lib.hid (ythere_calls b y who h)
  have CR := fun w' => Lib.hid (cright_calls k w')
  rw [ht] at TH
  rw [hr] at CR
  obtain ⟨h1, h2⟩ := task_at ho ht
  obtain ⟨t0, t1'⟩ := there_bd ht
  have t1 : who < (y.tasks.length : Int) := by have := ho.tl; omega
  obtain ⟨v, hv, hs⟩ := tasks_pick who.toNat h1 (h.pick 3 rfl)
  rw [List.getElem?_eq_getElem h1] at h2
  rw [Option.some.inj h2] at hs
  obtain ⟨q, rfl, hq⟩ := taskO_bool hs
  rw [hb] at hq
  obtain ⟨q, rfl⟩ := Option.isSome_iff_exists.1 hq
  have K := Lib.hid h
  have HV := Lib.hid hv
  clear h hs hq h2 hv
  have TH2 := fun w' (M : List SA) (h : sat E w' (yardP b bm gt gm (.slice p n c) y :: memA bm y.mem :: ptrsA gt vs :: tasksA vs y.tasks :: deedsA p n c y.deeds :: mineA gm y.mine :: M)) => TH w' M (yardA_shut h)
  go_enter Tryz.func10, Tryz.ntmps10
  go_wp2_with (first | (((with_reducible refine at_box ?_); refine st_boxf K.out rfl rfl (fun _ => rfl) ?_; intro g5 w1 K1; have K2 := Lib.hid K1; clear K1 K; (try clear a0); (try clear l0); (try clear a1); (try clear l1); (try clear a2); (try clear l2); have K := K2; clear K2; have a0 := K.out.rd 0 rfl; have l0 := K.out.ltp 0 rfl; have a1 := K.out.rd 1 rfl; have l1 := K.out.ltp 1 rfl); have x0 := K.out.rd 3 rfl who.toNat; rw [HV.out] at x0) | (go_at_call 24; (with_reducible refine (TH2 _ _ (((((((K.out.pick 0 rfl).pick 6 rfl).pick 6 rfl).pick 6 rfl).pick 6 rfl).pick 6 rfl).pick 6 rfl)).out.mono ?_); rintro e w1 ⟨rfl, rfl⟩) | ((go_at_call 25; (with_reducible refine ((CR _).out).mono ?_); rintro e w1 ⟨rfl, hb⟩; have K1 := sat.grown (by repeat (with_reducible first | exact K.out | apply sat.alloc_any | apply sat.drew | apply sat.drewN)) hb; clear hb; have K2 := Lib.hid K1; clear K1 K; (try clear a0); (try clear l0); (try clear a1); (try clear l1); (try clear a2); (try clear l2); have K := K2; clear K2; have a0 := K.out.rd 0 rfl; have l0 := K.out.ltp 0 rfl; have a1 := K.out.rd 1 rfl; have l1 := K.out.ltp 1 rfl); (try clear x0); have x0 := K.out.rd 3 rfl who.toNat; rw [HV.out] at x0))
  go_ret
  exact ⟨rfl, yardA_shut K.out.drop⟩
theorem tasks_begin {vs : List Value} {ts : List (Option TaskM)} (i : Nat) (hi : i < ts.length) (hn : ts[i]? = some none) {g : Nat} {t : TaskM} (h : sat E w (taskA g t :: tasksA vs ts :: L)) : sat E w (tasksA (vs.set i (.pointer (some ⟨g, 0, none⟩))) (ts.set i (some t)) :: L) := by
  obtain ⟨v, hv, hs⟩ := tasks_pick i hi h.swap
  rw [List.getElem?_eq_getElem hi] at hn
  rw [Option.some.inj hn] at hs
  obtain ⟨hv0, hs2⟩ := taskO_none hs
  exact tasks_put i hi _ _ (taskO_put hs2.swap)
theorem ycall_go (b : Nat) (y : YardM) (ho : y.ok) (who : Int) (k : CallM) (hdl : y.deeds.length < 100000) (hmv : y.moves < 1000000) (ht : y.there who = true) (hr : k.right = true) (hb : y.task who = none) (h : sat E w (yardA b y :: L)) : Calls Tryz.prog 10 #[.pointer (some ⟨b, 0, none⟩), .int .i64 who, .agg #[.int .i64 k.kind, .int .i64 k.fin, .int .u64 k.value, .int .i64 k.start]] w fun e w' => e = .returned (.int .i64 0) ∧
    sat E w' (yardA b { y with tasks := y.tasks.set who.toNat (some (TaskM.new y.conf who k)), mine := y.mine.set who.toNat y.deeds.length, deeds := y.deeds ++ [⟨who, k, y.moves, -1, .zero⟩], moves := y.moves + 1 } :: L) := by
  obtain ⟨bm, gt, gm, p, n, c, vs, h⟩ := yardA_open h
  obtain ⟨hn, _⟩ := Go.SepYtlnfbfnccefcnaaGreat.row_len (h.pick 4 rfl)
  subst hn
  have TH := fun w' (M : List SA) (h : sat E w' (yardA b y :: M)) => Lib.hid (ythere_calls b y who h)
  have CR := fun w' => Lib.hid (cright_calls k w')
  rw [ht] at TH
  rw [hr] at CR
  have TH2 := fun w' (M : List SA) (h : sat E w' (yardP b bm gt gm (.slice p y.deeds.length c) y :: memA bm y.mem :: ptrsA gt vs :: tasksA vs y.tasks :: deedsA p y.deeds.length c y.deeds :: mineA gm y.mine :: M)) => TH w' M (yardA_shut h)
  obtain ⟨h1, h2⟩ := task_at ho ht
  obtain ⟨t0, t1'⟩ := there_bd ht
  have t1 : who < (y.tasks.length : Int) := by have := ho.tl; omega
  have t2 : who < (y.mine.length : Int) := by have := ho.ml; omega
  have hvl := sat_has (h.pick 3 rfl) (fun g => tasks_len vs y.tasks)
  obtain ⟨v, hv, hs⟩ := tasks_pick who.toNat h1 (h.pick 3 rfl)
  rw [List.getElem?_eq_getElem h1] at h2
  rw [Option.some.inj h2, hb] at hs
  obtain ⟨rfl, hs⟩ := taskO_none hs
  have K := Lib.hid h
  have TN := fun w' (M : List SA) (h : sat E w' M) => Lib.hid (tnew_calls y.conf ho.conf who k h)
  have HV := Lib.hid hv
  have H1 := Lib.hid h1
  have HN := Lib.hid (show y.tasks[who.toNat]? = some none from by rw [List.getElem?_eq_getElem h1, Option.some.inj h2, hb])
  have m0 := ho.m0
  have v1 : wrap64 (y.moves + 1) = y.moves + 1 := w64 (by omega) (by omega)
  clear h hs h2 hv h1
  go_enter Tryz.func10, Tryz.ntmps10
  go_wp2_with (first | (((with_reducible refine at_box ?_); refine st_boxf K.out rfl rfl (fun _ => rfl) ?_; intro g5 w1 K1; have K2 := Lib.hid K1; clear K1 K; (try clear a0); (try clear l0); (try clear a1); (try clear l1); (try clear a2); (try clear l2); have K := K2; clear K2; have a0 := K.out.rd 0 rfl; have l0 := K.out.ltp 0 rfl; have a1 := K.out.rd 1 rfl; have l1 := K.out.ltp 1 rfl); have x0 := K.out.rd 3 rfl who.toNat; rw [HV.out] at x0) | (go_at_call 24; (with_reducible refine (TH2 _ _ (((((((K.out.pick 0 rfl).pick 6 rfl).pick 6 rfl).pick 6 rfl).pick 6 rfl).pick 6 rfl).pick 6 rfl)).out.mono ?_); rintro e w1 ⟨rfl, rfl⟩) | ((go_at_call 25; (with_reducible refine ((CR _).out).mono ?_); rintro e w1 ⟨rfl, hb⟩; have K1 := sat.grown (by repeat (with_reducible first | exact K.out | apply sat.alloc_any | apply sat.drew | apply sat.drewN)) hb; clear hb; have K2 := Lib.hid K1; clear K1 K; (try clear a0); (try clear l0); (try clear a1); (try clear l1); (try clear a2); (try clear l2); have K := K2; clear K2; have a0 := K.out.rd 0 rfl; have l0 := K.out.ltp 0 rfl; have a1 := K.out.rd 1 rfl; have l1 := K.out.ltp 1 rfl); (try clear x0); have x0 := K.out.rd 3 rfl who.toNat; rw [HV.out] at x0))
  clear x0 TH TH2 hb ht hr
  refine wp_region_noPanic ?_
  refine wp_region_held_drew (S := (fun w' => (∀ j, w'.cell? ⟨b, j, none⟩ = (YardM.v y bm gt gm (.slice p y.deeds.length c))[j]?) ∧ (∀ j, w'.cell? ⟨g5, j, none⟩ = ([.int .i64 k.kind, .int .i64 k.fin, .int .u64 k.value, .int .i64 k.start] : List Value)[j]?))) (by kernel_rfl) ?_ (fun hHeld => ?_)
  · ((try dsimp only); (first | exact ⟨sat.rd 1 (by repeat (with_reducible first | exact K.out | apply sat.alloc_any | apply sat.drew | apply sat.drewN)) rfl, sat.rd 0 (by repeat (with_reducible first | exact K.out | apply sat.alloc_any | apply sat.drew | apply sat.drewN)) rfl⟩ | exact ⟨sat.rd 2 (by repeat (with_reducible first | exact K.out | apply sat.alloc_any | apply sat.drew | apply sat.drewN)) rfl, sat.rd 1 (by repeat (with_reducible first | exact K.out | apply sat.alloc_any | apply sat.drew | apply sat.drewN)) rfl⟩))
  refine tk 0 (some 26) ?_
  (try simp only [Act.put, p0, p1, p2])
  refine tk 1 (some 27) ?_
  (try simp only [Act.put, p0, p1, p2])
  refine tk 2 (some 28) ?_
  (try simp only [Act.put, p0, p1, p2])
  refine tk 3 (some 29) ?_
  (try simp only [Act.put, p0, p1, p2])
  refine tk 4 (some 30) ?_
  (try simp only [Act.put, p0, p1, p2])
  refine tk 5 (some 31) ?_
  (try simp only [Act.put, p0, p1, p2])
  refine tk 6 (some 32) ?_
  (try simp only [Act.put, p0, p1, p2])
  refine tk 7 (some 33) ?_
  (try simp only [Act.put, p0, p1, p2])
  refine tk 8 (some 34) ?_
  (try simp only [Act.put, p0, p1, p2])
  refine tk 9 (some 35) ?_
  (try simp only [Act.put, p0, p1, p2])
  refine tk 10 (some 36) ?_
  (try simp only [Act.put, p0, p1, p2])
  refine wpAnyH_ready (rs := [11]) (by kernel_rfl) (by simp) ?_
  refine AllReadyH.cons (o := _) rfl (fun kC hkC => ?_) AllReadyH.nil
  go_simp
  (first | (go_at_call 26; (with_reducible refine ((TN _ _ (show sat E _ _ from by first | exact K.out | exact K.out.drew)).out).mono ?_); rintro e w1 ⟨gk, rfl, K1⟩; have K2 := Lib.hid K1; clear K1 K; (try clear a0); (try clear l0); (try clear f0); (try clear a1); (try clear l1); (try clear f1); (try clear a2); (try clear l2); (try clear f2); (try clear a3); (try clear l3); (try clear f3); (try clear a4); (try clear l4); (try clear f4); (try clear a5); (try clear l5); (try clear f5); have K := K2; clear K2; (try have a0 := K.out.rd 0 rfl); (try have l0 := K.out.ltp 0 rfl); (try have f0 := K.out.fr 0 rfl); (try have a1 := K.out.rd 1 rfl); (try have l1 := K.out.ltp 1 rfl); (try have f1 := K.out.fr 1 rfl); (try have a2 := K.out.rd 2 rfl); (try have l2 := K.out.ltp 2 rfl); (try have f2 := K.out.fr 2 rfl); (try have a3 := K.out.rd 3 rfl); (try have l3 := K.out.ltp 3 rfl); (try have f3 := K.out.fr 3 rfl)))
  refine shown hkC _ _ (by (try dsimp only); (first | exact ⟨sat.rd 1 (by repeat (with_reducible first | exact K.out | apply sat.alloc_any | apply sat.drew | apply sat.drewN)) rfl, sat.rd 0 (by repeat (with_reducible first | exact K.out | apply sat.alloc_any | apply sat.drew | apply sat.drewN)) rfl⟩ | exact ⟨sat.rd 2 (by repeat (with_reducible first | exact K.out | apply sat.alloc_any | apply sat.drew | apply sat.drewN)) rfl, sat.rd 1 (by repeat (with_reducible first | exact K.out | apply sat.alloc_any | apply sat.drew | apply sat.drewN)) rfl⟩)) ?_; clear hkC kC hHeld; intro hHeld
  (try simp only [Act.put, p0, p1, p2])
  refine tk 12 (some 38) ?_
  (try simp only [Act.put, p0, p1, p2])
  refine wpAnyH_ready (rs := [13]) (by kernel_rfl) (by simp) ?_
  refine AllReadyH.cons (o := _) rfl (fun kC hkC => ?_) AllReadyH.nil
  (refine rg_store (E := E) (d := none) 4 (by kernel_rfl) rfl rfl (by first | exact K.out | exact K.out.drew) rfl rfl rfl rfl ?_ ?_ ?_ ?_; (· kernel_rfl); (· show _ + 1 ≤ _; (try simp only [ints, List.length_map]); omega); (· simp [Value.oneCell']); intro w1 K1; simp only [List.set, putL_one] at K1; have K2 := Lib.hid K1; clear K1 K; (try clear a0); (try clear l0); (try clear f0); (try clear a1); (try clear l1); (try clear f1); (try clear a2); (try clear l2); (try clear f2); (try clear a3); (try clear l3); (try clear f3); (try clear a4); (try clear l4); (try clear f4); (try clear a5); (try clear l5); (try clear f5); have K := K2; clear K2; (try have a0 := K.out.rd 0 rfl); (try have l0 := K.out.ltp 0 rfl); (try have f0 := K.out.fr 0 rfl); (try have a1 := K.out.rd 1 rfl); (try have l1 := K.out.ltp 1 rfl); (try have f1 := K.out.fr 1 rfl); (try have a2 := K.out.rd 2 rfl); (try have l2 := K.out.ltp 2 rfl); (try have f2 := K.out.fr 2 rfl); (try have a3 := K.out.rd 3 rfl); (try have l3 := K.out.ltp 3 rfl); (try have f3 := K.out.fr 3 rfl))
  refine shown hkC _ _ (by (try dsimp only); (first | exact ⟨sat.rd 1 (by repeat (with_reducible first | exact K.out | apply sat.alloc_any | apply sat.drew | apply sat.drewN)) rfl, sat.rd 0 (by repeat (with_reducible first | exact K.out | apply sat.alloc_any | apply sat.drew | apply sat.drewN)) rfl⟩ | exact ⟨sat.rd 2 (by repeat (with_reducible first | exact K.out | apply sat.alloc_any | apply sat.drew | apply sat.drewN)) rfl, sat.rd 1 (by repeat (with_reducible first | exact K.out | apply sat.alloc_any | apply sat.drew | apply sat.drewN)) rfl⟩)) ?_; clear hkC kC hHeld; intro hHeld
  (try simp only [Act.put, p0, p1, p2])
  refine wpAnyH_done (by kernel_rfl) (NoPanic.normal ?_) _
  go_wp2_with fail
  refine wp_region_noPanic ?_
  refine wp_region_held_drew (S := (fun w' => (∀ j, w'.cell? ⟨b, j, none⟩ = (YardM.v y bm gt gm (.slice p y.deeds.length c))[j]?) ∧ (∀ j, w'.cell? ⟨g5, j, none⟩ = ([.int .i64 k.kind, .int .i64 k.fin, .int .u64 k.value, .int .i64 k.start] : List Value)[j]?))) (by kernel_rfl) ?_ (fun hHeld => ?_)
  · ((try dsimp only); (first | exact ⟨sat.rd 1 (by repeat (with_reducible first | exact K.out | apply sat.alloc_any | apply sat.drew | apply sat.drewN)) rfl, sat.rd 0 (by repeat (with_reducible first | exact K.out | apply sat.alloc_any | apply sat.drew | apply sat.drewN)) rfl⟩ | exact ⟨sat.rd 2 (by repeat (with_reducible first | exact K.out | apply sat.alloc_any | apply sat.drew | apply sat.drewN)) rfl, sat.rd 1 (by repeat (with_reducible first | exact K.out | apply sat.alloc_any | apply sat.drew | apply sat.drewN)) rfl⟩))
  refine tk 0 (some 39) ?_
  (try simp only [Act.put, p0, p1, p2])
  refine tk 1 (some 40) ?_
  (try simp only [Act.put, p0, p1, p2])
  refine tk 2 (some 41) ?_
  (try simp only [Act.put, p0, p1, p2])
  refine tk 3 (some 42) ?_
  (try simp only [Act.put, p0, p1, p2])
  refine tk 4 (some 43) ?_
  (try simp only [Act.put, p0, p1, p2])
  refine tk 5 (some 44) ?_
  (try simp only [Act.put, p0, p1, p2])
  refine tk 6 (some 45) ?_
  (try simp only [Act.put, p0, p1, p2])
  refine tk 7 (some 46) ?_
  (try simp only [Act.put, p0, p1, p2])
  refine tk 8 (some 47) ?_
  (try simp only [Act.put, p0, p1, p2])
  refine tk 9 (some 48) ?_
  (try simp only [Act.put, p0, p1, p2])
  refine tk 10 (some 49) ?_
  (try simp only [Act.put, p0, p1, p2])
  refine wpAnyH_ready (rs := [11]) (by kernel_rfl) (by simp) ?_
  refine AllReadyH.cons (o := _) rfl (fun kC hkC => ?_) AllReadyH.nil
  (refine rg_store (E := E) (d := none) 7 (by kernel_rfl) rfl rfl (by first | exact K.out | exact K.out.drew) rfl rfl rfl rfl ?_ ?_ ?_ ?_; (· kernel_rfl); (· show _ + 1 ≤ _; (try simp only [ints, List.length_map]); omega); (· simp [Value.oneCell']); intro w1 K1; simp only [List.set, putL_one] at K1; have K2 := Lib.hid K1; clear K1 K; (try clear a0); (try clear l0); (try clear f0); (try clear a1); (try clear l1); (try clear f1); (try clear a2); (try clear l2); (try clear f2); (try clear a3); (try clear l3); (try clear f3); (try clear a4); (try clear l4); (try clear f4); (try clear a5); (try clear l5); (try clear f5); have K := K2; clear K2; (try have a0 := K.out.rd 0 rfl); (try have l0 := K.out.ltp 0 rfl); (try have f0 := K.out.fr 0 rfl); (try have a1 := K.out.rd 1 rfl); (try have l1 := K.out.ltp 1 rfl); (try have f1 := K.out.fr 1 rfl); (try have a2 := K.out.rd 2 rfl); (try have l2 := K.out.ltp 2 rfl); (try have f2 := K.out.fr 2 rfl); (try have a3 := K.out.rd 3 rfl); (try have l3 := K.out.ltp 3 rfl); (try have f3 := K.out.fr 3 rfl))
  refine shown hkC _ _ (by (try dsimp only); (first | exact ⟨sat.rd 1 (by repeat (with_reducible first | exact K.out | apply sat.alloc_any | apply sat.drew | apply sat.drewN)) rfl, sat.rd 0 (by repeat (with_reducible first | exact K.out | apply sat.alloc_any | apply sat.drew | apply sat.drewN)) rfl⟩ | exact ⟨sat.rd 2 (by repeat (with_reducible first | exact K.out | apply sat.alloc_any | apply sat.drew | apply sat.drewN)) rfl, sat.rd 1 (by repeat (with_reducible first | exact K.out | apply sat.alloc_any | apply sat.drew | apply sat.drewN)) rfl⟩)) ?_; clear hkC kC hHeld; intro hHeld
  (try simp only [Act.put, p0, p1, p2])
  refine wpAnyH_done (by kernel_rfl) (NoPanic.normal ?_) _
  go_wp2_with fail
  refine wp_region_noPanic ?_
  refine wp_region_held_drew (S := (fun w' => (∀ j, w'.cell? ⟨g5, j, none⟩ = ([.int .i64 k.kind, .int .i64 k.fin, .int .u64 k.value, .int .i64 k.start] : List Value)[j]?) ∧ w'.cell? ⟨b, 8, none⟩ = some (.int .i64 y.moves))) (by kernel_rfl) ?_ (fun hHeld => ?_)
  · ((try dsimp only); (exact ⟨sat.rd 1 (by repeat (with_reducible first | exact K.out | apply sat.alloc_any | apply sat.drew | apply sat.drewN)) rfl, Eq.trans (sat.rd 2 (by repeat (with_reducible first | exact K.out | apply sat.alloc_any | apply sat.drew | apply sat.drewN)) rfl 8) rfl⟩))
  refine tk 0 (some 50) ?_
  (try simp only [Act.put, p0, p1, p2])
  refine tk 1 (some 51) ?_
  (try simp only [Act.put, p0, p1, p2])
  refine tk 2 (some 52) ?_
  (try simp only [Act.put, p0, p1, p2])
  refine tk 3 (some 53) ?_
  (try simp only [Act.put, p0, p1, p2])
  refine tk 5 (some 55) ?_
  (try simp only [Act.put, p0, p1, p2])
  refine tk 6 (some 56) ?_
  (try simp only [Act.put, p0, p1, p2])
  refine tk 7 (some 57) ?_
  (try simp only [Act.put, p0, p1, p2])
  refine tk 8 (some 58) ?_
  (try simp only [Act.put, p0, p1, p2])
  refine tk 9 (some 59) ?_
  (try simp only [Act.put, p0, p1, p2])
  refine tk 10 (some 60) ?_
  (try simp only [Act.put, p0, p1, p2])
  refine tk 11 (some 61) ?_
  (try simp only [Act.put, p0, p1, p2])
  refine wpAnyH_ready (rs := [4, 12]) (by kernel_rfl) (by simp) ?_
  refine AllReadyH.cons (o := _) rfl (fun kC hkC => ?_) ?_
  go_simp
  refine shown hkC _ _ (by (try dsimp only); (exact ⟨sat.rd 1 (by repeat (with_reducible first | exact K.out | apply sat.alloc_any | apply sat.drew | apply sat.drewN)) rfl, Eq.trans (sat.rd 2 (by repeat (with_reducible first | exact K.out | apply sat.alloc_any | apply sat.drew | apply sat.drewN)) rfl 8) rfl⟩)) ?_; clear hkC kC hHeld; intro hHeld
  (try simp only [Act.put, p0, p1, p2])
  refine wpAnyH_ready (rs := [12]) (by kernel_rfl) (by simp) ?_
  refine AllReadyH.cons (o := _) rfl (fun kC hkC => ?_) AllReadyH.nil
  go_simp
  refine shown hkC _ _ (by (try dsimp only); (exact ⟨sat.rd 1 (by repeat (with_reducible first | exact K.out | apply sat.alloc_any | apply sat.drew | apply sat.drewN)) rfl, Eq.trans (sat.rd 2 (by repeat (with_reducible first | exact K.out | apply sat.alloc_any | apply sat.drew | apply sat.drewN)) rfl 8) rfl⟩)) ?_; clear hkC kC hHeld; intro hHeld
  (try simp only [Act.put, p0, p1, p2])
  refine wpAnyH_ready (rs := [13]) (by kernel_rfl) (by simp) ?_
  refine AllReadyH.cons (o := _) rfl (fun kC hkC => ?_) AllReadyH.nil
  (first | (refine rg_append_d (E := E) (d := some 63) 6 (by kernel_rfl) rfl rfl 57 11 88 Tryz.underlying43 deedInfoY (by repeat (with_reducible first | exact K.out | apply sat.alloc_any | apply sat.drew | apply sat.drewN)) rfl rfl (news := (DeedM.v ⟨who, k, y.moves, -1, .zero⟩)) rfl rfl (fun j u hj => alloc_news w1 (DeedM.v ⟨who, k, y.moves, -1, .zero⟩) 57 j u hj) ?_ Nat.one_pos ?_ ?_ ?_; (· simp [Value.oneCell']); (· simp only [maxLen]; omega); (· omega); intro p2 n2 c2 w1 K1; simp only [List.set] at K1; have K2 := Lib.hid K1; clear K1 K; (try clear a0); (try clear l0); (try clear f0); (try clear a1); (try clear l1); (try clear f1); (try clear a2); (try clear l2); (try clear f2); (try clear a3); (try clear l3); (try clear f3); (try clear a4); (try clear l4); (try clear f4); (try clear a5); (try clear l5); (try clear f5); have K := K2; clear K2; (try have a0 := K.out.rd 0 rfl); (try have l0 := K.out.ltp 0 rfl); (try have f0 := K.out.fr 0 rfl); (try have a1 := K.out.rd 1 rfl); (try have l1 := K.out.ltp 1 rfl); (try have f1 := K.out.fr 1 rfl); (try have a2 := K.out.rd 2 rfl); (try have l2 := K.out.ltp 2 rfl); (try have f2 := K.out.fr 2 rfl); (try have a3 := K.out.rd 3 rfl); (try have l3 := K.out.ltp 3 rfl); (try have f3 := K.out.fr 3 rfl)))
  refine shown hkC _ _ (by (try dsimp only); (exact ⟨sat.rd 1 (by repeat (with_reducible first | exact K.out | apply sat.alloc_any | apply sat.drew | apply sat.drewN)) rfl, Eq.trans (sat.rd 2 (by repeat (with_reducible first | exact K.out | apply sat.alloc_any | apply sat.drew | apply sat.drewN)) rfl 8) rfl⟩)) ?_; clear hkC kC hHeld; intro hHeld
  (try simp only [Act.put, p0, p1, p2])
  refine tk 14 (some 64) ?_
  (try simp only [Act.put, p0, p1, p2])
  refine tk 15 (some 65) ?_
  (try simp only [Act.put, p0, p1, p2])
  refine wpAnyH_ready (rs := [16]) (by kernel_rfl) (by simp) ?_
  refine AllReadyH.cons (o := _) rfl (fun kC hkC => ?_) AllReadyH.nil
  (first | (refine rg_store (E := E) (d := none) 0 (by kernel_rfl) rfl rfl (by first | exact K.out | exact K.out.drew) rfl rfl rfl rfl ?_ ?_ ?_ ?_; (· kernel_rfl); (· simp); (· simp [Value.oneCell']); intro w1 K1; simp only [List.set, putL] at K1; have K2 := Lib.hid K1; clear K1 K; (try clear a0); (try clear l0); (try clear f0); (try clear a1); (try clear l1); (try clear f1); (try clear a2); (try clear l2); (try clear f2); (try clear a3); (try clear l3); (try clear f3); (try clear a4); (try clear l4); (try clear f4); (try clear a5); (try clear l5); (try clear f5); have K := K2; clear K2; (try have a0 := K.out.rd 0 rfl); (try have l0 := K.out.ltp 0 rfl); (try have f0 := K.out.fr 0 rfl); (try have a1 := K.out.rd 1 rfl); (try have l1 := K.out.ltp 1 rfl); (try have f1 := K.out.fr 1 rfl); (try have a2 := K.out.rd 2 rfl); (try have l2 := K.out.ltp 2 rfl); (try have f2 := K.out.fr 2 rfl); (try have a3 := K.out.rd 3 rfl); (try have l3 := K.out.ltp 3 rfl); (try have f3 := K.out.fr 3 rfl)) | (refine rg_store (E := E) (d := none) 1 (by kernel_rfl) rfl rfl (by first | exact K.out | exact K.out.drew) rfl rfl rfl rfl ?_ ?_ ?_ ?_; (· kernel_rfl); (· simp); (· simp [Value.oneCell']); intro w1 K1; simp only [List.set, putL] at K1; have K2 := Lib.hid K1; clear K1 K; (try clear a0); (try clear l0); (try clear f0); (try clear a1); (try clear l1); (try clear f1); (try clear a2); (try clear l2); (try clear f2); (try clear a3); (try clear l3); (try clear f3); (try clear a4); (try clear l4); (try clear f4); (try clear a5); (try clear l5); (try clear f5); have K := K2; clear K2; (try have a0 := K.out.rd 0 rfl); (try have l0 := K.out.ltp 0 rfl); (try have f0 := K.out.fr 0 rfl); (try have a1 := K.out.rd 1 rfl); (try have l1 := K.out.ltp 1 rfl); (try have f1 := K.out.fr 1 rfl); (try have a2 := K.out.rd 2 rfl); (try have l2 := K.out.ltp 2 rfl); (try have f2 := K.out.fr 2 rfl); (try have a3 := K.out.rd 3 rfl); (try have l3 := K.out.ltp 3 rfl); (try have f3 := K.out.fr 3 rfl)) | (refine rg_store (E := E) (d := none) 2 (by kernel_rfl) rfl rfl (by first | exact K.out | exact K.out.drew) rfl rfl rfl rfl ?_ ?_ ?_ ?_; (· kernel_rfl); (· simp); (· simp [Value.oneCell']); intro w1 K1; simp only [List.set, putL] at K1; have K2 := Lib.hid K1; clear K1 K; (try clear a0); (try clear l0); (try clear f0); (try clear a1); (try clear l1); (try clear f1); (try clear a2); (try clear l2); (try clear f2); (try clear a3); (try clear l3); (try clear f3); (try clear a4); (try clear l4); (try clear f4); (try clear a5); (try clear l5); (try clear f5); have K := K2; clear K2; (try have a0 := K.out.rd 0 rfl); (try have l0 := K.out.ltp 0 rfl); (try have f0 := K.out.fr 0 rfl); (try have a1 := K.out.rd 1 rfl); (try have l1 := K.out.ltp 1 rfl); (try have f1 := K.out.fr 1 rfl); (try have a2 := K.out.rd 2 rfl); (try have l2 := K.out.ltp 2 rfl); (try have f2 := K.out.fr 2 rfl); (try have a3 := K.out.rd 3 rfl); (try have l3 := K.out.ltp 3 rfl); (try have f3 := K.out.fr 3 rfl)))
  refine shown hkC _ _ (by (try dsimp only); (exact ⟨sat.rd 1 (by repeat (with_reducible first | exact K.out | apply sat.alloc_any | apply sat.drew | apply sat.drewN)) rfl, Eq.trans (sat.rd 2 (by repeat (with_reducible first | exact K.out | apply sat.alloc_any | apply sat.drew | apply sat.drewN)) rfl 8) rfl⟩)) ?_; clear hkC kC hHeld; intro hHeld
  (try simp only [Act.put, p0, p1, p2])
  refine wpAnyH_done (by kernel_rfl) (NoPanic.normal ?_) _
  rotate_left
  refine AllReadyH.cons (o := _) rfl (fun kC hkC => ?_) ?_
  go_simp
  refine shown hkC _ _ (by (try dsimp only); (exact ⟨sat.rd 1 (by repeat (with_reducible first | exact K.out | apply sat.alloc_any | apply sat.drew | apply sat.drewN)) rfl, Eq.trans (sat.rd 2 (by repeat (with_reducible first | exact K.out | apply sat.alloc_any | apply sat.drew | apply sat.drewN)) rfl 8) rfl⟩)) ?_; clear hkC kC hHeld; intro hHeld
  (try simp only [Act.put, p0, p1, p2])
  refine wpAnyH_ready (rs := [4]) (by kernel_rfl) (by simp) ?_
  refine AllReadyH.cons (o := _) rfl (fun kC hkC => ?_) AllReadyH.nil
  go_simp
  refine shown hkC _ _ (by (try dsimp only); (exact ⟨sat.rd 1 (by repeat (with_reducible first | exact K.out | apply sat.alloc_any | apply sat.drew | apply sat.drewN)) rfl, Eq.trans (sat.rd 2 (by repeat (with_reducible first | exact K.out | apply sat.alloc_any | apply sat.drew | apply sat.drewN)) rfl 8) rfl⟩)) ?_; clear hkC kC hHeld; intro hHeld
  (try simp only [Act.put, p0, p1, p2])
  refine wpAnyH_ready (rs := [13]) (by kernel_rfl) (by simp) ?_
  refine AllReadyH.cons (o := _) rfl (fun kC hkC => ?_) AllReadyH.nil
  (first | (refine rg_append_d (E := E) (d := some 63) 6 (by kernel_rfl) rfl rfl 57 11 88 Tryz.underlying43 deedInfoY (by repeat (with_reducible first | exact K.out | apply sat.alloc_any | apply sat.drew | apply sat.drewN)) rfl rfl (news := (DeedM.v ⟨who, k, y.moves, -1, .zero⟩)) rfl rfl (fun j u hj => alloc_news w1 (DeedM.v ⟨who, k, y.moves, -1, .zero⟩) 57 j u hj) ?_ Nat.one_pos ?_ ?_ ?_; (· simp [Value.oneCell']); (· simp only [maxLen]; omega); (· omega); intro p2 n2 c2 w1 K1; simp only [List.set] at K1; have K2 := Lib.hid K1; clear K1 K; (try clear a0); (try clear l0); (try clear f0); (try clear a1); (try clear l1); (try clear f1); (try clear a2); (try clear l2); (try clear f2); (try clear a3); (try clear l3); (try clear f3); (try clear a4); (try clear l4); (try clear f4); (try clear a5); (try clear l5); (try clear f5); have K := K2; clear K2; (try have a0 := K.out.rd 0 rfl); (try have l0 := K.out.ltp 0 rfl); (try have f0 := K.out.fr 0 rfl); (try have a1 := K.out.rd 1 rfl); (try have l1 := K.out.ltp 1 rfl); (try have f1 := K.out.fr 1 rfl); (try have a2 := K.out.rd 2 rfl); (try have l2 := K.out.ltp 2 rfl); (try have f2 := K.out.fr 2 rfl); (try have a3 := K.out.rd 3 rfl); (try have l3 := K.out.ltp 3 rfl); (try have f3 := K.out.fr 3 rfl)))
  refine shown hkC _ _ (by (try dsimp only); (exact ⟨sat.rd 1 (by repeat (with_reducible first | exact K.out | apply sat.alloc_any | apply sat.drew | apply sat.drewN)) rfl, Eq.trans (sat.rd 2 (by repeat (with_reducible first | exact K.out | apply sat.alloc_any | apply sat.drew | apply sat.drewN)) rfl 8) rfl⟩)) ?_; clear hkC kC hHeld; intro hHeld
  (try simp only [Act.put, p0, p1, p2])
  refine tk 14 (some 64) ?_
  (try simp only [Act.put, p0, p1, p2])
  refine tk 15 (some 65) ?_
  (try simp only [Act.put, p0, p1, p2])
  refine wpAnyH_ready (rs := [16]) (by kernel_rfl) (by simp) ?_
  refine AllReadyH.cons (o := _) rfl (fun kC hkC => ?_) AllReadyH.nil
  (first | (refine rg_store (E := E) (d := none) 0 (by kernel_rfl) rfl rfl (by first | exact K.out | exact K.out.drew) rfl rfl rfl rfl ?_ ?_ ?_ ?_; (· kernel_rfl); (· simp); (· simp [Value.oneCell']); intro w1 K1; simp only [List.set, putL] at K1; have K2 := Lib.hid K1; clear K1 K; (try clear a0); (try clear l0); (try clear f0); (try clear a1); (try clear l1); (try clear f1); (try clear a2); (try clear l2); (try clear f2); (try clear a3); (try clear l3); (try clear f3); (try clear a4); (try clear l4); (try clear f4); (try clear a5); (try clear l5); (try clear f5); have K := K2; clear K2; (try have a0 := K.out.rd 0 rfl); (try have l0 := K.out.ltp 0 rfl); (try have f0 := K.out.fr 0 rfl); (try have a1 := K.out.rd 1 rfl); (try have l1 := K.out.ltp 1 rfl); (try have f1 := K.out.fr 1 rfl); (try have a2 := K.out.rd 2 rfl); (try have l2 := K.out.ltp 2 rfl); (try have f2 := K.out.fr 2 rfl); (try have a3 := K.out.rd 3 rfl); (try have l3 := K.out.ltp 3 rfl); (try have f3 := K.out.fr 3 rfl)) | (refine rg_store (E := E) (d := none) 1 (by kernel_rfl) rfl rfl (by first | exact K.out | exact K.out.drew) rfl rfl rfl rfl ?_ ?_ ?_ ?_; (· kernel_rfl); (· simp); (· simp [Value.oneCell']); intro w1 K1; simp only [List.set, putL] at K1; have K2 := Lib.hid K1; clear K1 K; (try clear a0); (try clear l0); (try clear f0); (try clear a1); (try clear l1); (try clear f1); (try clear a2); (try clear l2); (try clear f2); (try clear a3); (try clear l3); (try clear f3); (try clear a4); (try clear l4); (try clear f4); (try clear a5); (try clear l5); (try clear f5); have K := K2; clear K2; (try have a0 := K.out.rd 0 rfl); (try have l0 := K.out.ltp 0 rfl); (try have f0 := K.out.fr 0 rfl); (try have a1 := K.out.rd 1 rfl); (try have l1 := K.out.ltp 1 rfl); (try have f1 := K.out.fr 1 rfl); (try have a2 := K.out.rd 2 rfl); (try have l2 := K.out.ltp 2 rfl); (try have f2 := K.out.fr 2 rfl); (try have a3 := K.out.rd 3 rfl); (try have l3 := K.out.ltp 3 rfl); (try have f3 := K.out.fr 3 rfl)) | (refine rg_store (E := E) (d := none) 2 (by kernel_rfl) rfl rfl (by first | exact K.out | exact K.out.drew) rfl rfl rfl rfl ?_ ?_ ?_ ?_; (· kernel_rfl); (· simp); (· simp [Value.oneCell']); intro w1 K1; simp only [List.set, putL] at K1; have K2 := Lib.hid K1; clear K1 K; (try clear a0); (try clear l0); (try clear f0); (try clear a1); (try clear l1); (try clear f1); (try clear a2); (try clear l2); (try clear f2); (try clear a3); (try clear l3); (try clear f3); (try clear a4); (try clear l4); (try clear f4); (try clear a5); (try clear l5); (try clear f5); have K := K2; clear K2; (try have a0 := K.out.rd 0 rfl); (try have l0 := K.out.ltp 0 rfl); (try have f0 := K.out.fr 0 rfl); (try have a1 := K.out.rd 1 rfl); (try have l1 := K.out.ltp 1 rfl); (try have f1 := K.out.fr 1 rfl); (try have a2 := K.out.rd 2 rfl); (try have l2 := K.out.ltp 2 rfl); (try have f2 := K.out.fr 2 rfl); (try have a3 := K.out.rd 3 rfl); (try have l3 := K.out.ltp 3 rfl); (try have f3 := K.out.fr 3 rfl)))
  refine shown hkC _ _ (by (try dsimp only); (exact ⟨sat.rd 1 (by repeat (with_reducible first | exact K.out | apply sat.alloc_any | apply sat.drew | apply sat.drewN)) rfl, Eq.trans (sat.rd 2 (by repeat (with_reducible first | exact K.out | apply sat.alloc_any | apply sat.drew | apply sat.drewN)) rfl 8) rfl⟩)) ?_; clear hkC kC hHeld; intro hHeld
  (try simp only [Act.put, p0, p1, p2])
  refine wpAnyH_done (by kernel_rfl) (NoPanic.normal ?_) _
  rotate_left
  exact AllReadyH.nil
  all_goals
    go_wp2_with (first | ((with_reducible refine at_store ?_); refine st_store 2 K.out rfl rfl rfl rfl ?_ ?_ ?_ ?_; (· kernel_rfl); (· simp); (· simp [Value.oneCell']); intro w1 K1; simp only [List.set, putL] at K1; have K2 := Lib.hid K1; clear K1 K; (try clear a0); (try clear l0); (try clear a1); (try clear l1); (try clear a2); (try clear l2); have K := K2; clear K2; have a2 := K.out.rd 2 rfl; have l2 := K.out.ltp 2 rfl))
  all_goals
    go_ret
    have K1 : sat E _ _ := ((((((((tasks_begin who.toNat H1.out HN.out ((((((((K.out.pick 1 rfl).pick 7 rfl).pick 7 rfl).pick 6 rfl).pick 6 rfl).pick 6 rfl).pick 7 rfl).pick 7 rfl)).pick 5 rfl).pick 5 rfl).pick 2 rfl).pick 5 rfl).pick 5 rfl).pick 5 rfl).pick 6 rfl).drop
    obtain ⟨hq, _⟩ := Go.SepYtlnfbfnccefcnaaGreat.row_len (show sat E _ (rowA (.slice p2 n2 c2) _ _ _ _ :: _) from K1.pick 4 rfl)
    subst hq
    refine ⟨rfl, yardA_shut (bm := bm) (gt := gt) (gm := gm) (p := p2) (n := y.deeds.length + 1) (c := c2) (vs := vs.set who.toNat (.pointer (some ⟨gk, 0, none⟩))) ?_⟩
    rw [ints_set] at K1
    simp only [yardP, YardM.v, deedsA, List.length_set, List.length_append, List.length_cons, List.length_nil, List.flatMap_append, List.flatMap_cons, List.flatMap_nil, List.append_nil]
    exact K1
/-- A call begins, or is refused. -/
theorem ycall_calls (b : Nat) (y : YardM) (ho : y.ok) (who : Int) (k : CallM) (hdl : y.deeds.length < 100000) (hmv : y.moves < 1000000) (h : sat E w (yardA b y :: L)) : Calls Tryz.prog 10 #[.pointer (some ⟨b, 0, none⟩), .int .i64 who, .agg #[.int .i64 k.kind, .int .i64 k.fin, .int .u64 k.value, .int .i64 k.start]] w fun e w' => e = .returned (.int .i64 (y.call who k).2) ∧ sat E w' (yardA b (y.call who k).1 :: L) := by
  unfold YardM.call
  by_cases hbad : (!y.there who || !k.right) = true
  · rw [if_pos hbad]
    exact ycall_out b y ho who k hbad h
  · rw [if_neg hbad]
    have ht : y.there who = true := by cases q : y.there who <;> simp_all
    have hr : k.right = true := by cases q : k.right <;> simp_all
    by_cases hb : (y.task who).isSome = true
    · rw [if_pos hb]
      exact ycall_busy b y ho who k ht hr hb h
    · rw [if_neg hb]
      exact ycall_go b y ho who k hdl hmv ht hr (by cases q : y.task who <;> simp_all) h
end
end Go.Proofs.YtlnfbfnccefcnaaGreat
