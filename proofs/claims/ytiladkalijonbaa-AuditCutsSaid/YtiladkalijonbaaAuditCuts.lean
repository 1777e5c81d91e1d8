/- Of a beginning of events that all may be all may be (AuditCuts answers true at every input). No condition beyond the row's own. -/
import Derived.Test.YtiladkalijonbaaAuditRaw
import Derived.Test.YtiladkalijonbaaAppendV
namespace Go.Proofs.Ytiladkalijonbaa
open Go.RowKit Go.SepYtiladkalijonbaa Go.Maps
set_option linter.unusedSimpArgs false
set_option linter.unusedVariables false
set_option maxRecDepth 100000
set_option maxHeartbeats 4000000
theorem evInfo : ∃ q z, Try.prog.info? 71 = some q ∧ q.zero = some z ∧ q.size = 6 ∧ q.bytes = 48 ∧ z.cells.size = 6 := ⟨_, _, rfl, rfl, rfl, rfl, rfl⟩
theorem ev_len : ∀ l : List Ev, (l.flatMap Ev.v).length = l.length * 6
  | [] => rfl
  | e :: l => by rw [List.flatMap_cons, List.length_append, ev_len l]; simp; omega
theorem ev_at : ∀ (l : List Ev) (n : Nat) (h : n < l.length) (i : Nat), i < 6 → (l.flatMap Ev.v)[n * 6 + i]? = (Ev.v l[n])[i]?
  | [], n, h, _, _ => by simp at h
  | e :: l, 0, _, i, hi => by
    rw [List.flatMap_cons, List.getElem?_append_left (by simp; omega)]
    simp
  | e :: l, n + 1, h, i, hi => by
    rw [List.flatMap_cons, List.getElem?_append_right (by simp; omega)]
    have := ev_at l n (by simpa using h) i hi
    simp only [List.getElem_cons_succ]
    rw [← this]
    congr 1
    simp
    omega
theorem ev_one (l : List Ev) : ∀ u ∈ l.flatMap Ev.v, u.oneCell' = true := by
  intro u hu
  obtain ⟨e, _, he⟩ := List.mem_flatMap.1 hu
  simp at he
  rcases he with rfl | rfl | rfl | rfl | rfl | rfl <;> rfl
theorem ev_mod (l : List Ev) (j : Nat) (u : Value) (h : (l.flatMap Ev.v)[j]? = some u) : ∃ n i, ∃ hn : n < l.length, j = n * 6 + i ∧ i < 6 ∧ (Ev.v l[n])[i]? = some u := by
  have hj : j < (l.flatMap Ev.v).length := by
    rcases Nat.lt_or_ge j (l.flatMap Ev.v).length with h' | h'
    · exact h'
    · simp [List.getElem?_eq_none h'] at h
  rw [ev_len] at hj
  have hn : j / 6 < l.length := by omega
  refine ⟨j / 6, j % 6, hn, by omega, by omega, ?_⟩
  rw [← ev_at l (j / 6) hn (j % 6) (by omega), show j / 6 * 6 + j % 6 = j by omega]
  exact h
theorem oldE_row {E w : World} {L : List SA} {p : Option Addr} {n c t : Nat} {l : List Ev} (h : sat E w (rowA (.slice p n c) t 6 l.length (l.flatMap Ev.v) :: L)) : OldE w p l := fun j hj => by
  obtain ⟨g, rfl, rfl⟩ := row_some h (by omega)
  obtain ⟨_, ⟨h0, _⟩ | ⟨g', cap, cur, h0, _, _, _, _, h5⟩⟩ := h.row_open
  · simp at h0
  · simp at h0
    obtain ⟨rfl, rfl⟩ := h0
    refine ⟨g, 0, rfl, h5.lt, fun i u hi => ?_⟩
    have h6 : i < 6 := by
      rcases Nat.lt_or_ge i 6 with h' | h'
      · exact h'
      · simp [List.getElem?_eq_none (show (Ev.v l[j]).length ≤ i by simpa using h')] at hi
    rw [Nat.zero_add]
    exact h.row_rd 0 rfl (j * 6 + i) u (by rw [ev_at l j hj i h6]; exact hi)
theorem old_new {w : World} {p : Option Addr} {l : List Ev} (h : OldE w p l) (h0 : 0 < l.length) : ∃ b o, p = some ⟨b, o, none⟩ ∧ ∀ j u, (l.flatMap Ev.v)[j]? = some u → w.cell? ⟨b, o + j, none⟩ = some u := by
  obtain ⟨b, o, rfl, _, _⟩ := h 0 h0
  refine ⟨b, o, rfl, fun j u hu => ?_⟩
  obtain ⟨n, i, hn, rfl, hi, hv⟩ := ev_mod l j u hu
  obtain ⟨b', o', e, _, hx⟩ := h n hn
  injection e with e
  injection e with e1 e2 _
  subst e1 e2
  rw [← Nat.add_assoc]
  exact hx i u hv
theorem cuts_calls (W : World) (t s r : Int) (p : Option Addr) (l : List Ev) (cap : Nat) (p2 : Option Addr) (m : List Ev) (cap2 : Nat) (hcap : l.length ≤ cap) (hwf : ∀ e ∈ l, Ev.wf e) (h : OldE W p l) (hcap2 : m.length ≤ cap2) (hwf2 : ∀ e ∈ m, Ev.wf e) (h2 : OldE W p2 m) :
    Tells 5 #[.int .i64 t, .int .i64 s, .int .i64 r, .slice p l.length cap, .slice p2 m.length cap2] W (.bool true) := by
  have K := Lib.hid (sat.start W)
  have HD := fun w => Lib.hid (head_calls w)
  by_cases h60 : l.length > 60 ∨ m.length > 60
  · by_cases h61 : l.length > 60
    · have t1 : decide ((l.length : Int) > 60) = true := by simp; omega
      clear h60 h61 h hwf hcap h2 hwf2 hcap2
      go_enter Try.func5, Try.ntmps5
      go_wp2_with (first | (go_at_call 15; (with_reducible refine ((HD _).out).mono ?_); rintro e w1 ⟨rfl, hb⟩; have K1 := sat.grown (by repeat (with_reducible first | exact K.out | apply sat.alloc_any | apply sat.drew | apply sat.drewN)) hb; clear hb; have K2 := Lib.hid K1; clear K1 K; (try clear a0); (try clear l0); (try clear a1); (try clear l1); (try clear a2); (try clear l2); have K := K2; clear K2))
      all_goals (go_ret; exact ⟨rfl, K.out.below⟩)
    · have t1 : decide ((l.length : Int) > 60) = false := by simp; omega
      have t2 : decide ((m.length : Int) > 60) = true := by simp; omega
      clear h60 h61 h hwf hcap h2 hwf2 hcap2
      go_enter Try.func5, Try.ntmps5
      go_wp2_with (first | (go_at_call 15; (with_reducible refine ((HD _).out).mono ?_); rintro e w1 ⟨rfl, hb⟩; have K1 := sat.grown (by repeat (with_reducible first | exact K.out | apply sat.alloc_any | apply sat.drew | apply sat.drewN)) hb; clear hb; have K2 := Lib.hid K1; clear K1 K; (try clear a0); (try clear l0); (try clear a1); (try clear l1); (try clear a2); (try clear l2); have K := K2; clear K2))
      all_goals (go_ret; exact ⟨rfl, K.out.below⟩)
  · have t1 : decide ((l.length : Int) > 60) = false := by simp; omega
    have t2 : decide ((m.length : Int) > 60) = false := by simp; omega
    have n1 : l.length ≤ 60 := by omega
    have n2 : m.length ≤ 60 := by omega
    have hc := confS_ok t s r 0
    have CF := fun w => Lib.hid (conf_calls t s r 0 w)
    generalize confS t s r 0 = c at *
    have hb1 := firstM_bd c l []
    have hb2 := firstM_bd c (l ++ m) []
    have ha := firstM_append c l m []
    have hb3 := firstM_bd c m l
    have F1 := fun w' (hb : Below W.heap.size W w') => Lib.hid (first_calls c hc p l cap w' (by omega) hwf (h.grown hb))
    have hwf3 : ∀ e ∈ l ++ m, Ev.wf e := fun e he => by rcases List.mem_append.1 he with he | he; exact hwf e he; exact hwf2 e he
    have hlm : (l ++ m).length = l.length + m.length := List.length_append
    have F2 := fun w' (q : Option Addr) (c2 : Nat) (ho : OldE w' q (l ++ m)) => Lib.hid (first_calls c hc q (l ++ m) c2 w' (by omega) hwf3 ho)
    rw [hlm] at F2
    have HN := Lib.hid (fun w' (hb : Below W.heap.size W w') => old_new (h.grown hb))
    have HN2 := Lib.hid (fun w' (hb : Below W.heap.size W w') => old_new (h2.grown hb))
    have HT := Lib.hid (fun (n : Nat) => h.take n)
    have HF := Lib.hid (fun (n : Nat) (h : firstM c [] l = (n : Int)) => firstM_take c l n h)
    have HW := Lib.hid hwf
    rw [List.nil_append] at ha
    simp only [List.length_nil] at hb1 hb2
    by_cases hneg : firstM c [] l = -1
    · rw [if_pos hneg] at ha
      have t3 : decide (firstM c [] l ≥ 0) = false := by simp; omega
      rw [ha] at F2
      have hres : ((firstM c l m == -1) || (decide (firstM c l m ≥ (l.length : Int)) && decide (firstM c l m < (l.length : Int) + (m.length : Int)))) = true := by
        rcases hb3 with h3 | h3
        · simp [h3]
        · have q1 : decide (firstM c l m ≥ (l.length : Int)) = true := by simp; omega
          have q2 : decide (firstM c l m < (l.length : Int) + (m.length : Int)) = true := by simp; omega
          simp [q1, q2]
      have HR := Lib.hid hres
      clear hres hb1 hb2 hb3 ha hneg h60 h hwf hcap h2 hwf2 hwf3 hcap2 hc hlm
      generalize firstM c [] l = k0 at *
      generalize firstM c l m = k1 at *
      go_enter Try.func5, Try.ntmps5
      go_wp2_with (first | (go_at_call 15; (with_reducible refine ((HD _).out).mono ?_); rintro e w1 ⟨rfl, hb⟩; have K1 := sat.grown (by repeat (with_reducible first | exact K.out | apply sat.alloc_any | apply sat.drew | apply sat.drewN)) hb; clear hb; have K2 := Lib.hid K1; clear K1 K; (try clear a0); (try clear l0); (try clear a1); (try clear l1); (try clear a2); (try clear l2); have K := K2; clear K2) | (go_at_call 11; (with_reducible refine ((CF _).out).mono ?_); rintro e w1 ⟨rfl, hb⟩; have K1 := sat.grown (by repeat (with_reducible first | exact K.out | apply sat.alloc_any | apply sat.drew | apply sat.drewN)) hb; clear hb; have K2 := Lib.hid K1; clear K1 K; (try clear a0); (try clear l0); (try clear a1); (try clear l1); (try clear a2); (try clear l2); have K := K2; clear K2) | ((with_reducible refine at_alloc ?_); refine st_allocf K.out (fun _ => rfl) ?_; intro gc w1 K1; have K2 := Lib.hid K1; clear K1 K; (try clear a0); (try clear l0); (try clear a1); (try clear l1); (try clear a2); (try clear l2); have K := K2; clear K2; have a0 := K.out.rd 0 rfl; have l0 := K.out.ltp 0 rfl) | ((fail_if_success (have _hq := pa)); ((with_reducible refine at_store ?_); refine st_store 0 K.out rfl rfl rfl rfl ?_ ?_ ?_ ?_; (· kernel_rfl); (· simp); (· simp [Value.oneCell']); intro w1 K1; simp only [List.set, putL] at K1; have K2 := Lib.hid K1; clear K1 K; (try clear a0); (try clear l0); (try clear a1); (try clear l1); (try clear a2); (try clear l2); have K := K2; clear K2; have a0 := K.out.rd 0 rfl; have l0 := K.out.ltp 0 rfl)) | ((fail_if_success (have _hq := pa)); ((go_at_call 16; (with_reducible refine ((F1 _ (RowKit.Hid.out K).below).out).mono ?_); rintro r w1 ⟨rfl, hb⟩; have K1 := sat.grown K.out hb; clear hb; have K2 := Lib.hid K1; clear K1 K; (try clear a0); (try clear l0); (try clear a1); (try clear l1); (try clear a2); (try clear l2); have K := K2; clear K2; have a0 := K.out.rd 0 rfl; have l0 := K.out.ltp 0 rfl))) | ((fail_if_success (have _hq := pa)); have KE := sat.row_empty (e := 71) (size := 6) K.out; (with_reducible refine at_append ?_); refine st_append_part 0 71 6 48 Try.underlying48 evInfo KE rfl rfl (news := l.flatMap Ev.v) rfl (ev_len l) (HN.out _ KE.below) (ev_one l) ?_ ?_ ?_; (· simp only [maxLen]; omega); (· omega); intro pa na ca w1 K1; simp only [List.set, Nat.zero_add, List.nil_append] at K1; clear KE; have K2 := Lib.hid K1; clear K1 K; (try clear a0); (try clear l0); (try clear a1); (try clear l1); (try clear a2); (try clear l2); have K := K2; clear K2; have a1 := K.out.rd 1 rfl; have l1 := K.out.ltp 1 rfl) | ((with_reducible refine at_append ?_); refine st_append_part 0 71 6 48 Try.underlying48 evInfo K.out rfl rfl (news := m.flatMap Ev.v) rfl (ev_len m) (HN2.out _ (RowKit.Hid.out K).below) (ev_one m) ?_ ?_ ?_; (· simp only [maxLen]; omega); (· omega); intro pb nb cb w1 K1; simp only [List.set] at K1; rw [← List.flatMap_append, ← List.length_append] at K1; obtain ⟨hnb, _⟩ := row_len K1; rw [List.length_append] at hnb; subst hnb; have ho := oldE_row K1; have HO := Lib.hid ho; clear ho; have K2 := Lib.hid K1; clear K1 K; (try clear a0); (try clear l0); (try clear a1); (try clear l1); (try clear a2); (try clear l2); have K := K2; clear K2; have a1 := K.out.rd 1 rfl; have l1 := K.out.ltp 1 rfl) | ((go_at_call 16; (with_reducible refine ((F2 _ _ _ (oldE_row (RowKit.Hid.out K))).out).mono ?_); rintro r w1 ⟨rfl, hb⟩; have K1 := sat.grown K.out hb; clear hb; have K2 := Lib.hid K1; clear K1 K; (try clear a0); (try clear l0); (try clear a1); (try clear l1); (try clear a2); (try clear l2); have K := K2; clear K2; have a1 := K.out.rd 1 rfl; have l1 := K.out.ltp 1 rfl)))
      all_goals (go_ret; exact ⟨ret_b (by have := HR.out; simp_all <;> omega), K.out.below⟩)
    · rw [if_neg hneg] at ha
      obtain ⟨n, hn⟩ : ∃ n : Nat, firstM c [] l = (n : Int) := ⟨(firstM c [] l).toNat, by omega⟩
      have hnl : n < l.length := by omega
      have F3 := fun w' (hb : Below W.heap.size W w') => Lib.hid (first_calls c hc p (l.take n) cap w' (by rw [List.length_take]; omega) (fun e he => hwf e (List.mem_of_mem_take he)) ((h.grown hb).take n))
      rw [HF.out n hn, List.length_take, Nat.min_eq_left (by omega)] at F3
      rw [ha, hn] at F2
      rw [hn] at F1
      have t3 : decide ((n : Int) ≥ 0) = true := by simp
      have t4 : decide (n < l.length) = true := by simpa using hnl
      have t5 : ((n : Int) == (n : Int)) = true := by simp
      have b0 : (0 : Int) ≤ (n : Int) := by omega
      have b1 : (n : Int) ≤ (cap : Int) := by omega
      have b2 : n ≤ cap := by omega
      clear hb1 hb2 hb3 ha hneg h60 h hwf hcap h2 hwf2 hwf3 hcap2 hc hlm hn
      go_enter Try.func5, Try.ntmps5
      go_wp2_with (first | (go_at_call 15; (with_reducible refine ((HD _).out).mono ?_); rintro e w1 ⟨rfl, hb⟩; have K1 := sat.grown (by repeat (with_reducible first | exact K.out | apply sat.alloc_any | apply sat.drew | apply sat.drewN)) hb; clear hb; have K2 := Lib.hid K1; clear K1 K; (try clear a0); (try clear l0); (try clear a1); (try clear l1); (try clear a2); (try clear l2); have K := K2; clear K2) | (go_at_call 11; (with_reducible refine ((CF _).out).mono ?_); rintro e w1 ⟨rfl, hb⟩; have K1 := sat.grown (by repeat (with_reducible first | exact K.out | apply sat.alloc_any | apply sat.drew | apply sat.drewN)) hb; clear hb; have K2 := Lib.hid K1; clear K1 K; (try clear a0); (try clear l0); (try clear a1); (try clear l1); (try clear a2); (try clear l2); have K := K2; clear K2) | ((with_reducible refine at_alloc ?_); refine st_allocf K.out (fun _ => rfl) ?_; intro gc w1 K1; have K2 := Lib.hid K1; clear K1 K; (try clear a0); (try clear l0); (try clear a1); (try clear l1); (try clear a2); (try clear l2); have K := K2; clear K2; have a0 := K.out.rd 0 rfl; have l0 := K.out.ltp 0 rfl) | ((fail_if_success (have _hq := pa)); ((with_reducible refine at_store ?_); refine st_store 0 K.out rfl rfl rfl rfl ?_ ?_ ?_ ?_; (· kernel_rfl); (· simp); (· simp [Value.oneCell']); intro w1 K1; simp only [List.set, putL] at K1; have K2 := Lib.hid K1; clear K1 K; (try clear a0); (try clear l0); (try clear a1); (try clear l1); (try clear a2); (try clear l2); have K := K2; clear K2; have a0 := K.out.rd 0 rfl; have l0 := K.out.ltp 0 rfl)) | ((fail_if_success (have _hq := pa)); ((go_at_call 16; (with_reducible refine ((F1 _ (RowKit.Hid.out K).below).out).mono ?_); rintro r w1 ⟨rfl, hb⟩; have K1 := sat.grown K.out hb; clear hb; have K2 := Lib.hid K1; clear K1 K; (try clear a0); (try clear l0); (try clear a1); (try clear l1); (try clear a2); (try clear l2); have K := K2; clear K2; have a0 := K.out.rd 0 rfl; have l0 := K.out.ltp 0 rfl))) | ((fail_if_success (have _hq := pa)); have KE := sat.row_empty (e := 71) (size := 6) K.out; (with_reducible refine at_append ?_); refine st_append_part 0 71 6 48 Try.underlying48 evInfo KE rfl rfl (news := l.flatMap Ev.v) rfl (ev_len l) (HN.out _ KE.below) (ev_one l) ?_ ?_ ?_; (· simp only [maxLen]; omega); (· omega); intro pa na ca w1 K1; simp only [List.set, Nat.zero_add, List.nil_append] at K1; clear KE; have K2 := Lib.hid K1; clear K1 K; (try clear a0); (try clear l0); (try clear a1); (try clear l1); (try clear a2); (try clear l2); have K := K2; clear K2; have a1 := K.out.rd 1 rfl; have l1 := K.out.ltp 1 rfl) | ((with_reducible refine at_append ?_); refine st_append_part 0 71 6 48 Try.underlying48 evInfo K.out rfl rfl (news := m.flatMap Ev.v) rfl (ev_len m) (HN2.out _ (RowKit.Hid.out K).below) (ev_one m) ?_ ?_ ?_; (· simp only [maxLen]; omega); (· omega); intro pb nb cb w1 K1; simp only [List.set] at K1; rw [← List.flatMap_append, ← List.length_append] at K1; obtain ⟨hnb, _⟩ := row_len K1; rw [List.length_append] at hnb; subst hnb; have ho := oldE_row K1; have HO := Lib.hid ho; clear ho; have K2 := Lib.hid K1; clear K1 K; (try clear a0); (try clear l0); (try clear a1); (try clear l1); (try clear a2); (try clear l2); have K := K2; clear K2; have a1 := K.out.rd 1 rfl; have l1 := K.out.ltp 1 rfl) | ((go_at_call 16; (with_reducible refine ((F2 _ _ _ (oldE_row (RowKit.Hid.out K))).out).mono ?_); rintro r w1 ⟨rfl, hb⟩; have K1 := sat.grown K.out hb; clear hb; have K2 := Lib.hid K1; clear K1 K; (try clear a0); (try clear l0); (try clear a1); (try clear l1); (try clear a2); (try clear l2); have K := K2; clear K2; have a1 := K.out.rd 1 rfl; have l1 := K.out.ltp 1 rfl)))
      refine wp_region_noPanic ?_
      refine wp_region_held_drew (S := (fun w' => (∀ j, w'.cell? ⟨gc, j, none⟩ = [Value.int .i64 c.th, .int .i64 c.sl, .int .i64 c.src, .int .i64 c.dl][j]?))) (by kernel_rfl) ?_ (fun hHeld => ?_)
      · ((try dsimp only); (first | exact K.out.rd 1 rfl | exact K.out.drew.rd 1 rfl))
      refine tk 0 (some 39) ?_
      (try simp only [Act.put, p0, p1, p2])
      refine tk 1 (some 40) ?_
      (try simp only [Act.put, p0, p1, p2])
      refine tk 2 (some 41) ?_
      (try simp only [Act.put, p0, p1, p2])
      refine tk 3 (some 42) ?_
      (try simp only [Act.put, p0, p1, p2])
      refine tk 4 (some 43) ?_
      (try simp only [Act.put, p0, p1, p2])
      refine tk 5 (some 44) ?_
      (try simp only [Act.put, p0, p1, p2])
      refine tk 6 (some 45) ?_
      (try simp only [Act.put, p0, p1, p2])
      refine tk 8 (some 47) ?_
      (try simp only [Act.put, p0, p1, p2])
      refine wpAnyH_ready (rs := [7]) (by kernel_rfl) (by simp) ?_
      refine AllReadyH.cons (o := _) rfl (fun kC hkC => ?_) AllReadyH.nil
      go_simp
      (first | (go_at_call 16; (with_reducible refine ((F2 _ _ _ (oldE_row (RowKit.Hid.out K).drew)).out).mono ?_); rintro r w1 ⟨rfl, hb⟩; have K1 := sat.grown K.out.drew hb; clear hb; have K2 := Lib.hid K1; clear K1 K; (try clear a0); (try clear l0); (try clear a1); (try clear l1); (try clear a2); (try clear l2); have K := K2; clear K2; have a1 := K.out.rd 1 rfl; have l1 := K.out.ltp 1 rfl) | (go_at_call 16; (with_reducible refine ((F3 _ (RowKit.Hid.out K).below).out).mono ?_); rintro r w1 ⟨rfl, hb⟩; have K1 := sat.grown K.out hb; clear hb; have K2 := Lib.hid K1; clear K1 K; (try clear a0); (try clear l0); (try clear a1); (try clear l1); (try clear a2); (try clear l2); have K := K2; clear K2; have a1 := K.out.rd 1 rfl; have l1 := K.out.ltp 1 rfl))
      refine shown hkC _ _ (by (try dsimp only); (first | exact K.out.rd 1 rfl | exact K.out.drew.rd 1 rfl)) ?_; clear hkC kC hHeld; intro hHeld
      (try simp only [Act.put, p0, p1, p2])
      refine tk 9 (some 48) ?_
      (try simp only [Act.put, p0, p1, p2])
      refine tk 10 (some 49) ?_
      (try simp only [Act.put, p0, p1, p2])
      refine tk 11 (some 50) ?_
      (try simp only [Act.put, p0, p1, p2])
      refine tk 12 (some 51) ?_
      (try simp only [Act.put, p0, p1, p2])
      refine tk 13 (some 52) ?_
      (try simp only [Act.put, p0, p1, p2])
      refine tk 14 (some 53) ?_
      (try simp only [Act.put, p0, p1, p2])
      refine tk 15 (some 54) ?_
      (try simp only [Act.put, p0, p1, p2])
      refine wpAnyH_ready (rs := [16]) (by kernel_rfl) (by simp) ?_
      refine AllReadyH.cons (o := _) rfl (fun kC hkC => ?_) AllReadyH.nil
      go_simp
      (first | (go_at_call 16; (with_reducible refine ((F2 _ _ _ (oldE_row (RowKit.Hid.out K).drew)).out).mono ?_); rintro r w1 ⟨rfl, hb⟩; have K1 := sat.grown K.out.drew hb; clear hb; have K2 := Lib.hid K1; clear K1 K; (try clear a0); (try clear l0); (try clear a1); (try clear l1); (try clear a2); (try clear l2); have K := K2; clear K2; have a1 := K.out.rd 1 rfl; have l1 := K.out.ltp 1 rfl) | (go_at_call 16; (with_reducible refine ((F3 _ (RowKit.Hid.out K).below).out).mono ?_); rintro r w1 ⟨rfl, hb⟩; have K1 := sat.grown K.out hb; clear hb; have K2 := Lib.hid K1; clear K1 K; (try clear a0); (try clear l0); (try clear a1); (try clear l1); (try clear a2); (try clear l2); have K := K2; clear K2; have a1 := K.out.rd 1 rfl; have l1 := K.out.ltp 1 rfl))
      refine shown hkC _ _ (by (try dsimp only); (first | exact K.out.rd 1 rfl | exact K.out.drew.rd 1 rfl)) ?_; clear hkC kC hHeld; intro hHeld
      (try simp only [Act.put, p0, p1, p2])
      refine tk 17 (some 56) ?_
      (try simp only [Act.put, p0, p1, p2])
      refine tk 18 (some 57) ?_
      (try simp only [Act.put, p0, p1, p2])
      refine tk 19 (some 10) ?_
      (try simp only [Act.put, p0, p1, p2])
      refine wpAnyH_done (by kernel_rfl) (NoPanic.normal ?_) _
      go_wp2
      go_ret
      exact ⟨rfl, K.out.below⟩
theorem auditCuts_calls (W : World) (t : Int) (_ : (Lit.int .i64 t).wf = true) (s : Int) (_ : (Lit.int .i64 s).wf = true) (r : Int) (_ : (Lit.int .i64 r).wf = true) (p : Option Addr) (len cap : Nat) (rows : List (List Value))
    (hr : RowsAt W [.int .i64, .int .i64, .int .i64, .int .u64, .int .u64, .bool] p len cap rows) (p2 : Option Addr) (len2 cap2 : Nat) (rows2 : List (List Value))
    (hr2 : RowsAt W [.int .i64, .int .i64, .int .i64, .int .u64, .int .u64, .bool] p2 len2 cap2 rows2) :
    Calls Try.prog 5 #[.int .i64 t, .int .i64 s, .int .i64 r, .slice p len cap, .slice p2 len2 cap2] W fun e W' => e = .returned (.bool true) ∧ Below W.heap.size W W' := by
  obtain ⟨l, rfl, hwf, ho⟩ := oldE_of hr
  obtain ⟨m, rfl, hwf2, ho2⟩ := oldE_of hr2
  exact cuts_calls W t s r p l cap p2 m cap2 hr.le hwf ho hr2.le hwf2 ho2
end Go.Proofs.Ytiladkalijonbaa
