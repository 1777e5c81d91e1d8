/- Of what any yard did, turned in one place: the first event that may not be (AuditFinds answers true at every input). No condition beyond the row's own. -/
import Derived.Test.YtegdhojhnmgjgaaGreatZm
import Derived.Test.YtegdhojhnmgjgaaGreatB8
namespace Go.SepYtegdhojhnmgjgaaGreat
open Go Go.RowKit
theorem rg_append_part_d {E w : World} {L : List SA} {P : Program} (i : Nat) {ops : Array Oper} {a : Act} {o : Oper} {Kc : Act → World → Prop} {Q : Exit → Act → World → Prop} {s x : Operand} {t : TypeId}
    (hw : Region.wanted o (yielded ops a.tmps) = true) {d : Option Tmp} (hd : o.dst = d) (ho : o.op = .call { callee := .builtin .append, args := #[s, x], argTypes := #[t, t] })
    (e size bytes : Nat) (ht : P.underlying t = some (.slice e)) (hi : ∃ q z, P.info? e = some q ∧ q.zero = some z ∧ q.size = size ∧ q.bytes = bytes ∧ z.cells.size = size)
    (h : sat E w L) {v : Value} {n : Nat} {xs : List Value} (hs : look a s = some v) (hL : L[i]? = some (rowA v e size n xs))
    {px : Option Addr} {m c : Nat} {news : List Value} (hx : look a x = some (.slice px m c)) (hl : news.length = m * size)
    (hnews : 0 < m → ∃ b o, px = some ⟨b, o, none⟩ ∧ ∀ j u, news[j]? = some u → w.cell? ⟨b, o + j, none⟩ = some u) (h1 : ∀ u ∈ news, u.oneCell' = true)
    (h63 : n + m ≤ maxLen) (hbytes : (n + m) * bytes ≤ 140737488355328)
    (k : ∀ p1 n1 c1 w', sat E w' (L.set i (rowA (.slice p1 n1 c1) e size (n + m) (xs ++ news))) → Kc (a.put d (.slice p1 n1 c1)) w') :
    if Region.wanted o (yielded ops a.tmps) = true then Oper.wp P o a w Kc Q else Kc (a.put o.dst undef) w := by
  subst hd
  exact rg_append_part i hw ho e size bytes ht hi h (look_eval hs) hL (look_eval hx) hl hnews h1 h63 hbytes k
theorem row_cutE {E w : World} {L : List SA} {p : Option Addr} {n c e size : Nat} {xs : List Value} (h : sat E w (rowA (.slice p n c) e size n xs :: L)) (i : Nat) (hi : i ≤ n) : sat E w (rowA (.slice p i c) e size i (xs.take (i * size)) :: L) := by
  obtain ⟨hl, ⟨h0, hn, hs⟩ | ⟨g, cap, cur, h0, q1, q2, q3, q4, q5⟩⟩ := h.row_open
  · subst hn
    obtain rfl : i = 0 := by omega
    simp at h0
    obtain ⟨rfl, rfl⟩ := h0
    rw [Nat.zero_mul, List.take_zero]
    exact hs.row_nil _ _
  · simp at h0
    obtain ⟨rfl, rfl⟩ := h0
    have hm : i * size ≤ n * size := Nat.mul_le_mul_right _ hi
    refine sat.row_shut ?_ (Nat.le_trans hi q1) q2 q3 ?_ q5
    · rw [List.length_take, hl]; omega
    · rw [← q4, List.take_take]
      congr 1
      omega
end Go.SepYtegdhojhnmgjgaaGreat
namespace Go.Proofs.YtegdhojhnmgjgaaGreat
open Go.RowKit Go.SepYtegdhojhnmgjgaaGreat Go.Maps
set_option linter.unusedSimpArgs false
set_option linter.unusedVariables false
set_option maxRecDepth 100000
set_option maxHeartbeats 40000000
structure SpoilM where
  at_ : Int
  what : Int
  by_ : Int
/-- One member of one event is turned: its cell. -/
theorem ev_put : ∀ (l : List Ev) (i : Nat) (hi : i < l.length) (f : Nat), f < 6 → ∀ (v : Value) (e' : Ev), (l[i].cells.set f v = e'.cells) → (evCells l).set (i * 6 + f) v = evCells (l.set i e')
  | [], i, hi, _, _, _, _, _ => by simp at hi
  | e :: l, 0, hi, f, hf, v, e', h => by
    show (e.cells ++ evCells l).set (0 * 6 + f) v = e'.cells ++ evCells l
    rw [Nat.zero_mul, Nat.zero_add, List.set_append_left _ _ (by show f < 6; exact hf)]
    have h' : e.cells.set f v = e'.cells := h
    rw [h']
  | e :: l, i + 1, hi, f, hf, v, e', h => by
    show (e.cells ++ evCells l).set ((i + 1) * 6 + f) v = e.cells ++ evCells (l.set i e')
    have h6 : e.cells.length = 6 := rfl
    rw [List.set_append_right _ _ (by rw [h6]; omega), h6, show (i + 1) * 6 + f - 6 = i * 6 + f by omega, ev_put l i (by simpa using hi) f hf v e' h]
theorem xor_u64 (x y : Int) : u64P (bits .xor .u64 x y) := by
  unfold bits u64P
  dsimp only
  rw [IntKind.wrap_u64]
  omega
theorem ev_rd {E w : World} {L : List SA} {g n c : Nat} {l : List Ev} (h : sat E w (rowA (.slice (some ⟨g, 0, none⟩) n c) 85 6 n (evCells l) :: L)) (i : Nat) (hi : i < l.length) (f : Nat) (hf : f < 6) {u : Value} (hu : l[i].cells[f]? = some u) : w.cell? ⟨g, i * 6 + f, none⟩ = some u :=
  h.row_rd 0 rfl (i * 6 + f) u (by
    show (l.flatMap Ev.cells)[i * 6 + f]? = _
    rw [fm_at ev_sz l i hi f hf]
    exact hu)
theorem fm_take : ∀ (l : List Ev) (i : Nat), (evCells l).take (i * 6) = evCells (l.take i)
  | [], i => by simp [evCells]
  | e :: l, 0 => by simp [evCells]
  | e :: l, i + 1 => by
    show (e.cells ++ evCells l).take ((i + 1) * 6) = e.cells ++ evCells (l.take i)
    have h6 : e.cells.length = 6 := rfl
    rw [List.take_append, h6, show (i + 1) * 6 - 6 = i * 6 by omega, List.take_of_length_le (by rw [h6]; omega), fm_take l i]
theorem fm_drop : ∀ (l : List Ev) (i : Nat), (evCells l).drop (i * 6) = evCells (l.drop i)
  | [], i => by simp [evCells]
  | e :: l, 0 => by simp [evCells]
  | e :: l, i + 1 => by
    show (e.cells ++ evCells l).drop ((i + 1) * 6) = evCells (l.drop i)
    have h6 : e.cells.length = 6 := rfl
    rw [List.drop_append, h6, show (i + 1) * 6 - 6 = i * 6 by omega, List.drop_of_length_le (by rw [h6]; omega), List.nil_append, fm_drop l i]
theorem evCells_len (l : List Ev) : (evCells l).length = l.length * 6 := fm_len ev_sz l
theorem evCells_app (l k : List Ev) : evCells l ++ evCells k = evCells (l ++ k) := by simp [evCells]
section
variable {E : World}
theorem af_row (c : ConfM) (hc : c.ok) (L' : List Ev) (n : Nat) (hn : L'.length = n) (h300 : n ≤ 1000) (hw : ∀ e ∈ L', Ev.wf e) (p : Option Addr) (k : Nat) (w' : World) (M : List SA) (h : sat E w' (rowA (.slice p n k) 85 6 n (evCells L') :: M)) :
    Tells 46 #[.agg #[.int .i64 c.th, .int .i64 c.sl, .int .i64 c.src, .int .i64 c.dl], .slice p n k] w' (.int .i64 (firstM c [] L')) := by
  subst hn
  exact afirst_calls c hc p L' k w' (by omega) hw (oldE_rowY h)
theorem lf_row (c : ConfM) (hc : c.ok) (L' : List Ev) (n : Nat) (hn : L'.length = n) (h300 : n ≤ 1000) (hw : ∀ e ∈ L', Ev.wf e) (p : Option Addr) (k : Nat) (w' : World) (M : List SA) (h : sat E w' (rowA (.slice p n k) 85 6 n (evCells L') :: M)) :
    Tells 47 #[.agg #[.int .i64 c.th, .int .i64 c.sl, .int .i64 c.src, .int .i64 c.dl], .slice p n k] w' (.int .i64 (firstM c [] L')) := by
  subst hn
  exact lfirst_calls c hc p L' k w' (by omega) (row_capE h) hw (oldE_rowY h)
end
theorem set_wf {l : List Ev} (h : ∀ e ∈ l, Ev.wf e) (i : Nat) {e' : Ev} (he : Ev.wf e') : ∀ e ∈ l.set i e', Ev.wf e := by
  intro e hm
  rcases List.mem_or_eq_of_mem_set hm with q | q
  · exact h e q
  · rw [q]; exact he
theorem auditFinds_main (t s r : Int) (p : Option Addr) (l : List MoveM) (cap : Nat) (sp : SpoilM) (E : World) (hwf : ∀ v ∈ l, v.wf) (ho : OldS MoveM.v 7 E p l) :
    Calls Tryz.prog 8 #[.int .i64 t, .int .i64 s, .int .i64 r, .slice p l.length cap, .agg #[.int .i64 sp.at_, .int .i64 sp.what, .int .i64 sp.by_]] E fun e w' => e = .returned (.bool true) ∧ Below E.heap.size E w' := by
  have K := Lib.hid (sat.start E)
  have HD := fun w => Lib.hid (head17_calls w)
  by_cases h200 : (l.length : Int) > 200
  · have c0 : decide ((l.length : Int) > 200) = true := by simpa using h200
    go_enter Tryz.func8, Tryz.ntmps8
    go_wp2_with (first | ((with_reducible refine at_box ?_); refine st_boxf K.out rfl rfl (fun _ => rfl) ?_; intro gs w1 K1; have K2 := Lib.hid K1; clear K1 K; (try clear a0); (try clear l0); (try clear a1); (try clear l1); (try clear a2); (try clear l2); have K := K2; clear K2; have a0 := K.out.rd 0 rfl; have l0 := K.out.ltp 0 rfl) | (go_at_call 44; (with_reducible refine ((HD _).out).mono ?_); rintro e w1 ⟨rfl, hb⟩; have K1 := sat.grown (by repeat (with_reducible first | exact K.out | apply sat.alloc_any | apply sat.drew | apply sat.drewN)) hb; clear hb; have K2 := Lib.hid K1; clear K1 K; (try clear a0); (try clear l0); (try clear a1); (try clear l1); (try clear a2); (try clear l2); have K := K2; clear K2; have a0 := K.out.rd 0 rfl; have l0 := K.out.ltp 0 rfl))
    go_ret
    exact ⟨rfl, K.out.below⟩
  · have c0 : decide ((l.length : Int) > 200) = false := by simpa using h200
    have hl : l.length ≤ 300 := by omega
    have RN := fun w' (M : List SA) (h : sat E w' M) => Lib.hid (run17_calls t s r p l cap hl hwf ho h)
    have hc := confS_ok t s r 1
    have hO := run_okn hc l hwf l.length (by omega)
    rw [List.take_length] at hO
    have hI := runsM_linv (confS t s r 1).th l (YardM.new_linv hc) (by omega) hwf
    generalize runsM (confS t s r 1).th (YardM.new (confS t s r 1)) l = Y at *
    have hlg := hO.1.log
    have hcY : Y.conf.ok := hO.1.conf
    have hew : ∀ e ∈ Y.mem.log, Ev.wf e := fun e he => evOk_wf hcY (hI.log e he)
    have hek : ∀ e ∈ Y.mem.log, evOk Y.conf e := fun e he => hI.log e he
    have LC := fun w' gy (M : List SA) (h : sat E w' (yardA gy Y :: M)) => Lib.hid (ylog_calls gy Y (by omega) h)
    have CC := fun w' gy (M : List SA) (h : sat E w' (yardA gy Y :: M)) => Lib.hid (yconf_calls gy Y h)
    have AF0 := fun L' n hn h3 hw p1 k1 w' M (h : sat E w' (rowA (.slice p1 n k1) 85 6 n (evCells L') :: M)) => Lib.hid (af_row Y.conf hcY L' n hn h3 hw p1 k1 w' M h)
    have LF0 := fun L' n hn h3 hw p1 k1 w' M (h : sat E w' (rowA (.slice p1 n k1) 85 6 n (evCells L') :: M)) => Lib.hid (lf_row Y.conf hcY L' n hn h3 hw p1 k1 w' M h)
    have hcl : Y.conf.cells ≤ 8320 := by have := hcY.all_bd; have := hcY.th2; unfold ConfM.cells; omega
    have hcth := hcY.th2
    clear hwf ho hO hI hc
    obtain ⟨lg, hlgd⟩ : ∃ lg, lg = Y.mem.log := ⟨_, rfl⟩
    rw [← hlgd] at LC hew hlg hek
    clear hlgd
    rcases Nat.eq_zero_or_pos lg.length with hz | hpos
    · as_aux_lemma =>
        have AF := AF0 lg lg.length rfl (by omega) hew
        have LF := LF0 lg lg.length rfl (by omega) hew
        have c1 : decide ((lg.length : Int) > 0) = false := by rw [decide_eq_false_iff_not]; omega
        have c1' : decide (0 < lg.length) = false := by rw [decide_eq_false_iff_not]; omega
        generalize firstM Y.conf [] lg = res at *
        have c2 : (res == res) = true := by simp
        clear hew hek AF0 LF0 hcY hz
        go_enter Tryz.func8, Tryz.ntmps8
        go_wp2_with (first | ((with_reducible refine at_box ?_); refine st_boxf K.out rfl rfl (fun _ => rfl) ?_; intro gs w1 K1; have K2 := Lib.hid K1; clear K1 K; (try clear a0); (try clear l0); (try clear a1); (try clear l1); (try clear a2); (try clear l2); have K := K2; clear K2; have a0 := K.out.rd 0 rfl; have l0 := K.out.ltp 0 rfl) | (go_at_call 44; (with_reducible refine ((HD _).out).mono ?_); rintro e w1 ⟨rfl, hb⟩; have K1 := sat.grown (by repeat (with_reducible first | exact K.out | apply sat.alloc_any | apply sat.drew | apply sat.drewN)) hb; clear hb; have K2 := Lib.hid K1; clear K1 K; (try clear a0); (try clear l0); (try clear a1); (try clear l1); (try clear a2); (try clear l2); have K := K2; clear K2; have a0 := K.out.rd 0 rfl; have l0 := K.out.ltp 0 rfl) | (go_at_call 45; (with_reducible refine ((RN _ _ (show sat E _ _ from by iterate 6 (try (with_reducible first | exact K.out | apply sat.alloc_any | apply sat.drew | apply sat.drewN)))).out).mono ?_); rintro e w1 ⟨gy, rfl, K1⟩; have K2 := Lib.hid K1; clear K1 K; (try clear a0); (try clear l0); (try clear a1); (try clear l1); (try clear a2); (try clear l2); have K := K2; clear K2; have a1 := K.out.rd 1 rfl; have l1 := K.out.ltp 1 rfl) | (go_at_call 14; (with_reducible refine ((LC _ _ _ (show sat E _ _ from by iterate 6 (try (with_reducible first | exact K.out | apply sat.alloc_any | apply sat.drew | apply sat.drewN)))).out).mono ?_); rintro e w1 ⟨p1, k1, rfl, K1⟩; have K2 := Lib.hid K1; clear K1 K; (try clear a0); (try clear l0); (try clear a1); (try clear l1); (try clear a2); (try clear l2); have K := K2; clear K2; have a2 := K.out.rd 2 rfl; have l2 := K.out.ltp 2 rfl) | (go_at_call 16; (with_reducible refine ((CC _ _ _ ((show sat E _ _ from by iterate 6 (try (with_reducible first | exact K.out | apply sat.alloc_any | apply sat.drew | apply sat.drewN))).pick 1 rfl)).out).mono ?_); rintro e w1 ⟨rfl, K1⟩; replace K1 := K1.pick 1 rfl; have K2 := Lib.hid K1; clear K1 K; (try clear a0); (try clear l0); (try clear a1); (try clear l1); (try clear a2); (try clear l2); have K := K2; clear K2) | (go_at_call 46; (with_reducible refine ((AF _ _ _ _ (show sat E _ _ from by iterate 6 (try (with_reducible first | exact K.out | apply sat.alloc_any | apply sat.drew | apply sat.drewN)))).out).mono ?_); rintro e w1 ⟨rfl, hb⟩; have K1 := sat.grown (by repeat (with_reducible first | exact K.out | apply sat.alloc_any | apply sat.drew | apply sat.drewN)) hb; clear hb; have K2 := Lib.hid K1; clear K1 K; (try clear a0); (try clear l0); (try clear a1); (try clear l1); (try clear a2); (try clear l2); have K := K2; clear K2) | (go_at_call 47; (with_reducible refine ((LF _ _ _ _ (show sat E _ _ from by iterate 6 (try (with_reducible first | exact K.out | apply sat.alloc_any | apply sat.drew | apply sat.drewN)))).out).mono ?_); rintro e w1 ⟨rfl, hb⟩; have K1 := sat.grown (by repeat (with_reducible first | exact K.out | apply sat.alloc_any | apply sat.drew | apply sat.drewN)) hb; clear hb; have K2 := Lib.hid K1; clear K1 K; (try clear a0); (try clear l0); (try clear a1); (try clear l1); (try clear a2); (try clear l2); have K := K2; clear K2))
        go_ret
        exact ⟨rfl, K.out.below⟩
    · have c1 : decide ((lg.length : Int) > 0) = true := by rw [decide_eq_true_eq]; omega
      have c1' : decide (0 < lg.length) = true := by rw [decide_eq_true_eq]; omega
      have c1'' : ¬ lg = [] := fun h => by rw [h] at hpos; simp at hpos
      have ea := and16 sp.at_
      have e7 := and7 sp.what
      have e8 := and7 sp.by_
      obtain ⟨i, hi⟩ : ∃ i : Nat, (i : Int) = sp.at_ % 65536 % (lg.length : Int) := ⟨(sp.at_ % 65536 % (lg.length : Int)).toNat, by have := Int.emod_nonneg (sp.at_ % 65536) (b := (lg.length : Int)) (by omega); omega⟩
      have hin : i < lg.length := by have := Int.emod_lt_of_pos (sp.at_ % 65536) (b := (lg.length : Int)) (by omega); omega
      have et : Int.tmod (sp.at_ % 65536) (lg.length : Int) = (i : Int) := by rw [Int.tmod_eq_emod_of_nonneg (by omega), hi]
      have z1 : ((lg.length : Int) == 0) = false := by rw [beq_eq_false_iff_ne]; omega
      have z2 : ¬ (lg.length : Int) = 0 := by omega
      have z3 : IntKind.i64.wrap (i : Int) = (i : Int) := wi (by omega) (by omega)
      have z4 : (0 : Int) ≤ (i : Int) := by omega
      have z5 : (i : Int) < (lg.length : Int) := by omega
      have z6 : (i : Int).toNat = i := by omega
      have b0 : 0 ≤ sp.by_ % 8 ∧ sp.by_ % 8 < 8 := by omega
      have eok := hek lg[i] (List.getElem_mem _)
      have ewf := hew lg[i] (List.getElem_mem _)
      generalize hby : sp.by_ % 8 = by_ at *
      generalize hwh : sp.what % 8 = wh at *
      have hwh8 : 0 ≤ wh ∧ wh < 8 := by omega
      have hlg3 : lg.length ≤ 1000 := by omega
      clear hi hby hek
      by_cases q0 : wh = 0
      · as_aux_lemma =>
          have d0 : (wh == 0) = true := by simpa using q0
          have v1 : wrap64 (by_ - 1) = by_ - 1 := w64 (by omega) (by omega)
          have AF := AF0 (lg.set i { lg[i] with who := by_ - 1 }) lg.length (List.length_set) hlg3 (set_wf hew i ⟨by show -9223372036854775808 ≤ by_ - 1 ∧ by_ - 1 < 9223372036854775808; omega, ewf.2.1, ewf.2.2.1, ewf.2.2.2⟩)
          have LF := LF0 (lg.set i { lg[i] with who := by_ - 1 }) lg.length (List.length_set) hlg3 (set_wf hew i ⟨by show -9223372036854775808 ≤ by_ - 1 ∧ by_ - 1 < 9223372036854775808; omega, ewf.2.1, ewf.2.2.1, ewf.2.2.2⟩)
          have EP := Lib.hid (show (evCells lg).set (i * 6) (.int .i64 (by_ - 1)) = evCells (lg.set i { lg[i] with who := by_ - 1 }) from ev_put lg i hin 0 (by decide) (.int .i64 (by_ - 1)) { lg[i] with who := by_ - 1 } rfl)
          generalize firstM Y.conf [] (lg.set i { lg[i] with who := by_ - 1 }) = res at *
          generalize evCells (lg.set i { lg[i] with who := by_ - 1 }) = cells at *
          have HF := Lib.hid (show i * 6 + 0 + 1 ≤ (evCells lg).length by rw [evCells_len]; omega)
          have c2 : (res == res) = true := by simp
          clear hew AF0 LF0 hcY eok ewf q0 hwh8
          go_enter Tryz.func8, Tryz.ntmps8
          go_wp2_with (first | ((with_reducible refine at_box ?_); refine st_boxf K.out rfl rfl (fun _ => rfl) ?_; intro gs w1 K1; have K2 := Lib.hid K1; clear K1 K; (try clear a0); (try clear l0); (try clear a1); (try clear l1); (try clear a2); (try clear l2); have K := K2; clear K2; have a0 := K.out.rd 0 rfl; have l0 := K.out.ltp 0 rfl) | (go_at_call 44; (with_reducible refine ((HD _).out).mono ?_); rintro e w1 ⟨rfl, hb⟩; have K1 := sat.grown (by repeat (with_reducible first | exact K.out | apply sat.alloc_any | apply sat.drew | apply sat.drewN)) hb; clear hb; have K2 := Lib.hid K1; clear K1 K; (try clear a0); (try clear l0); (try clear a1); (try clear l1); (try clear a2); (try clear l2); have K := K2; clear K2; have a0 := K.out.rd 0 rfl; have l0 := K.out.ltp 0 rfl) | (go_at_call 45; (with_reducible refine ((RN _ _ (show sat E _ _ from by iterate 6 (try (with_reducible first | exact K.out | apply sat.alloc_any | apply sat.drew | apply sat.drewN)))).out).mono ?_); rintro e w1 ⟨gy, rfl, K1⟩; have K2 := Lib.hid K1; clear K1 K; (try clear a0); (try clear l0); (try clear a1); (try clear l1); (try clear a2); (try clear l2); have K := K2; clear K2; have a1 := K.out.rd 1 rfl; have l1 := K.out.ltp 1 rfl) | ((go_at_call 14; (with_reducible refine ((LC _ _ _ (show sat E _ _ from by iterate 6 (try (with_reducible first | exact K.out | apply sat.alloc_any | apply sat.drew | apply sat.drewN)))).out).mono ?_); rintro e w1 ⟨p1, k1, rfl, K1⟩; have K2 := Lib.hid K1; clear K1 K; (try clear a0); (try clear l0); (try clear a1); (try clear l1); (try clear a2); (try clear l2); have K := K2; clear K2; have a2 := K.out.rd 2 rfl; have l2 := K.out.ltp 2 rfl); obtain ⟨g1, hg1, _⟩ := Go.SepYtegdhojhnmgjgaaGreat.row_some K.out hpos; subst hg1) | ((with_reducible refine at_store ?_); refine st_store_row 0 K.out rfl rfl rfl rfl ?_ ?_ ?_ ?_; (· kernel_rfl); (· exact HF.out); (· simp [Value.oneCell']); intro w1 K1; simp only [List.set, putL_one] at K1; rw [EP.out] at K1; have K2 := Lib.hid K1; clear K1 K; (try clear a0); (try clear l0); (try clear a1); (try clear l1); (try clear a2); (try clear l2); have K := K2; clear K2; have a2 := K.out.rd 2 rfl; have l2 := K.out.ltp 2 rfl) | (go_at_call 16; (with_reducible refine ((CC _ _ _ ((show sat E _ _ from by iterate 6 (try (with_reducible first | exact K.out | apply sat.alloc_any | apply sat.drew | apply sat.drewN))).pick 1 rfl)).out).mono ?_); rintro e w1 ⟨rfl, K1⟩; replace K1 := K1.pick 1 rfl; have K2 := Lib.hid K1; clear K1 K; (try clear a0); (try clear l0); (try clear a1); (try clear l1); (try clear a2); (try clear l2); have K := K2; clear K2) | (go_at_call 46; (with_reducible refine ((AF _ _ _ _ (show sat E _ _ from by iterate 6 (try (with_reducible first | exact K.out | apply sat.alloc_any | apply sat.drew | apply sat.drewN)))).out).mono ?_); rintro e w1 ⟨rfl, hb⟩; have K1 := sat.grown (by repeat (with_reducible first | exact K.out | apply sat.alloc_any | apply sat.drew | apply sat.drewN)) hb; clear hb; have K2 := Lib.hid K1; clear K1 K; (try clear a0); (try clear l0); (try clear a1); (try clear l1); (try clear a2); (try clear l2); have K := K2; clear K2) | (go_at_call 47; (with_reducible refine ((LF _ _ _ _ (show sat E _ _ from by iterate 6 (try (with_reducible first | exact K.out | apply sat.alloc_any | apply sat.drew | apply sat.drewN)))).out).mono ?_); rintro e w1 ⟨rfl, hb⟩; have K1 := sat.grown (by repeat (with_reducible first | exact K.out | apply sat.alloc_any | apply sat.drew | apply sat.drewN)) hb; clear hb; have K2 := Lib.hid K1; clear K1 K; (try clear a0); (try clear l0); (try clear a1); (try clear l1); (try clear a2); (try clear l2); have K := K2; clear K2))
          go_ret
          exact ⟨rfl, K.out.below⟩
      have d0 : (wh == 0) = false := by simpa using q0
      by_cases q1 : wh = 1
      · as_aux_lemma =>
          have d1 : (wh == 1) = true := by simpa using q1
          have v1 : wrap64 (by_ - 1) = by_ - 1 := w64 (by omega) (by omega)
          have AF := AF0 (lg.set i { lg[i] with op := by_ - 1 }) lg.length (List.length_set) hlg3 (set_wf hew i ⟨ewf.1, ewf.2.1, ewf.2.2.1, ewf.2.2.2⟩)
          have LF := LF0 (lg.set i { lg[i] with op := by_ - 1 }) lg.length (List.length_set) hlg3 (set_wf hew i ⟨ewf.1, ewf.2.1, ewf.2.2.1, ewf.2.2.2⟩)
          have EP := Lib.hid (ev_put lg i hin 1 (by decide) (.int .i64 (by_ - 1)) { lg[i] with op := by_ - 1 } rfl)
          generalize firstM Y.conf [] (lg.set i { lg[i] with op := by_ - 1 }) = res at *
          generalize evCells (lg.set i { lg[i] with op := by_ - 1 }) = cells at *
          have HF := Lib.hid (show i * 6 + 1 + 1 ≤ (evCells lg).length by rw [evCells_len]; omega)
          have c2 : (res == res) = true := by simp
          clear hew AF0 LF0 hcY eok ewf q1 hwh8
          go_enter Tryz.func8, Tryz.ntmps8
          go_wp2_with (first | ((with_reducible refine at_box ?_); refine st_boxf K.out rfl rfl (fun _ => rfl) ?_; intro gs w1 K1; have K2 := Lib.hid K1; clear K1 K; (try clear a0); (try clear l0); (try clear a1); (try clear l1); (try clear a2); (try clear l2); have K := K2; clear K2; have a0 := K.out.rd 0 rfl; have l0 := K.out.ltp 0 rfl) | (go_at_call 44; (with_reducible refine ((HD _).out).mono ?_); rintro e w1 ⟨rfl, hb⟩; have K1 := sat.grown (by repeat (with_reducible first | exact K.out | apply sat.alloc_any | apply sat.drew | apply sat.drewN)) hb; clear hb; have K2 := Lib.hid K1; clear K1 K; (try clear a0); (try clear l0); (try clear a1); (try clear l1); (try clear a2); (try clear l2); have K := K2; clear K2; have a0 := K.out.rd 0 rfl; have l0 := K.out.ltp 0 rfl) | (go_at_call 45; (with_reducible refine ((RN _ _ (show sat E _ _ from by iterate 6 (try (with_reducible first | exact K.out | apply sat.alloc_any | apply sat.drew | apply sat.drewN)))).out).mono ?_); rintro e w1 ⟨gy, rfl, K1⟩; have K2 := Lib.hid K1; clear K1 K; (try clear a0); (try clear l0); (try clear a1); (try clear l1); (try clear a2); (try clear l2); have K := K2; clear K2; have a1 := K.out.rd 1 rfl; have l1 := K.out.ltp 1 rfl) | ((go_at_call 14; (with_reducible refine ((LC _ _ _ (show sat E _ _ from by iterate 6 (try (with_reducible first | exact K.out | apply sat.alloc_any | apply sat.drew | apply sat.drewN)))).out).mono ?_); rintro e w1 ⟨p1, k1, rfl, K1⟩; have K2 := Lib.hid K1; clear K1 K; (try clear a0); (try clear l0); (try clear a1); (try clear l1); (try clear a2); (try clear l2); have K := K2; clear K2; have a2 := K.out.rd 2 rfl; have l2 := K.out.ltp 2 rfl); obtain ⟨g1, hg1, _⟩ := Go.SepYtegdhojhnmgjgaaGreat.row_some K.out hpos; subst hg1) | ((with_reducible refine at_store ?_); refine st_store_row 0 K.out rfl rfl rfl rfl ?_ ?_ ?_ ?_; (· kernel_rfl); (· exact HF.out); (· simp [Value.oneCell']); intro w1 K1; simp only [List.set, putL_one] at K1; rw [EP.out] at K1; have K2 := Lib.hid K1; clear K1 K; (try clear a0); (try clear l0); (try clear a1); (try clear l1); (try clear a2); (try clear l2); have K := K2; clear K2; have a2 := K.out.rd 2 rfl; have l2 := K.out.ltp 2 rfl) | (go_at_call 16; (with_reducible refine ((CC _ _ _ ((show sat E _ _ from by iterate 6 (try (with_reducible first | exact K.out | apply sat.alloc_any | apply sat.drew | apply sat.drewN))).pick 1 rfl)).out).mono ?_); rintro e w1 ⟨rfl, K1⟩; replace K1 := K1.pick 1 rfl; have K2 := Lib.hid K1; clear K1 K; (try clear a0); (try clear l0); (try clear a1); (try clear l1); (try clear a2); (try clear l2); have K := K2; clear K2) | (go_at_call 46; (with_reducible refine ((AF _ _ _ _ (show sat E _ _ from by iterate 6 (try (with_reducible first | exact K.out | apply sat.alloc_any | apply sat.drew | apply sat.drewN)))).out).mono ?_); rintro e w1 ⟨rfl, hb⟩; have K1 := sat.grown (by repeat (with_reducible first | exact K.out | apply sat.alloc_any | apply sat.drew | apply sat.drewN)) hb; clear hb; have K2 := Lib.hid K1; clear K1 K; (try clear a0); (try clear l0); (try clear a1); (try clear l1); (try clear a2); (try clear l2); have K := K2; clear K2) | (go_at_call 47; (with_reducible refine ((LF _ _ _ _ (show sat E _ _ from by iterate 6 (try (with_reducible first | exact K.out | apply sat.alloc_any | apply sat.drew | apply sat.drewN)))).out).mono ?_); rintro e w1 ⟨rfl, hb⟩; have K1 := sat.grown (by repeat (with_reducible first | exact K.out | apply sat.alloc_any | apply sat.drew | apply sat.drewN)) hb; clear hb; have K2 := Lib.hid K1; clear K1 K; (try clear a0); (try clear l0); (try clear a1); (try clear l1); (try clear a2); (try clear l2); have K := K2; clear K2))
          go_ret
          exact ⟨rfl, K.out.below⟩
      have d1 : (wh == 1) = false := by simpa using q1
      by_cases q2 : wh = 2
      · as_aux_lemma =>
          have d2 : (wh == 2) = true := by simpa using q2
          have v1 : wrap64 (by_ - 3) = by_ - 3 := w64 (by omega) (by omega)
          have v2 : wrap64 (lg[i].cell + (by_ - 3)) = lg[i].cell + (by_ - 3) := w64 (by have := eok.2.1; omega) (by have := eok.2.1; omega)
          have AF := AF0 (lg.set i { lg[i] with cell := lg[i].cell + (by_ - 3) }) lg.length (List.length_set) hlg3 (set_wf hew i ⟨ewf.1, by have := eok.2.1; show -9223372036854775808 ≤ lg[i].cell + (by_ - 3) ∧ lg[i].cell + (by_ - 3) < 9223372036854775808; omega, ewf.2.2.1, ewf.2.2.2⟩)
          have LF := LF0 (lg.set i { lg[i] with cell := lg[i].cell + (by_ - 3) }) lg.length (List.length_set) hlg3 (set_wf hew i ⟨ewf.1, by have := eok.2.1; show -9223372036854775808 ≤ lg[i].cell + (by_ - 3) ∧ lg[i].cell + (by_ - 3) < 9223372036854775808; omega, ewf.2.2.1, ewf.2.2.2⟩)
          have EP := Lib.hid (ev_put lg i hin 2 (by decide) (.int .i64 (lg[i].cell + (by_ - 3))) { lg[i] with cell := lg[i].cell + (by_ - 3) } rfl)
          generalize firstM Y.conf [] (lg.set i { lg[i] with cell := lg[i].cell + (by_ - 3) }) = res at *
          generalize evCells (lg.set i { lg[i] with cell := lg[i].cell + (by_ - 3) }) = cells at *
          have RD := Lib.hid (show ∀ (w' : World) (g n c : Nat) (M : List SA), sat E w' (rowA (.slice (some ⟨g, 0, none⟩) n c) 85 6 n (evCells lg) :: M) → w'.cell? ⟨g, i * 6 + 2, none⟩ = some (.int .i64 lg[i].cell) from fun w' g n c M h => ev_rd h i hin 2 (by decide) rfl)
          have HF := Lib.hid (show i * 6 + 2 + 1 ≤ (evCells lg).length by rw [evCells_len]; omega)
          generalize lg[i].cell = xx at *
          have c2 : (res == res) = true := by simp
          clear hew AF0 LF0 hcY eok ewf q2 hwh8
          go_enter Tryz.func8, Tryz.ntmps8
          go_wp2_with (first | ((with_reducible refine at_box ?_); refine st_boxf K.out rfl rfl (fun _ => rfl) ?_; intro gs w1 K1; have K2 := Lib.hid K1; clear K1 K; (try clear a0); (try clear l0); (try clear a1); (try clear l1); (try clear a2); (try clear l2); have K := K2; clear K2; have a0 := K.out.rd 0 rfl; have l0 := K.out.ltp 0 rfl) | (go_at_call 44; (with_reducible refine ((HD _).out).mono ?_); rintro e w1 ⟨rfl, hb⟩; have K1 := sat.grown (by repeat (with_reducible first | exact K.out | apply sat.alloc_any | apply sat.drew | apply sat.drewN)) hb; clear hb; have K2 := Lib.hid K1; clear K1 K; (try clear a0); (try clear l0); (try clear a1); (try clear l1); (try clear a2); (try clear l2); have K := K2; clear K2; have a0 := K.out.rd 0 rfl; have l0 := K.out.ltp 0 rfl) | (go_at_call 45; (with_reducible refine ((RN _ _ (show sat E _ _ from by iterate 6 (try (with_reducible first | exact K.out | apply sat.alloc_any | apply sat.drew | apply sat.drewN)))).out).mono ?_); rintro e w1 ⟨gy, rfl, K1⟩; have K2 := Lib.hid K1; clear K1 K; (try clear a0); (try clear l0); (try clear a1); (try clear l1); (try clear a2); (try clear l2); have K := K2; clear K2; have a1 := K.out.rd 1 rfl; have l1 := K.out.ltp 1 rfl) | ((go_at_call 14; (with_reducible refine ((LC _ _ _ (show sat E _ _ from by iterate 6 (try (with_reducible first | exact K.out | apply sat.alloc_any | apply sat.drew | apply sat.drewN)))).out).mono ?_); rintro e w1 ⟨p1, k1, rfl, K1⟩; have K2 := Lib.hid K1; clear K1 K; (try clear a0); (try clear l0); (try clear a1); (try clear l1); (try clear a2); (try clear l2); have K := K2; clear K2; have a2 := K.out.rd 2 rfl; have l2 := K.out.ltp 2 rfl); obtain ⟨g1, hg1, _⟩ := Go.SepYtegdhojhnmgjgaaGreat.row_some K.out hpos; subst hg1; have y2 := RD.out _ _ _ _ _ K.out) | ((with_reducible refine at_store ?_); refine st_store_row 0 K.out rfl rfl rfl rfl ?_ ?_ ?_ ?_; (· kernel_rfl); (· exact HF.out); (· simp [Value.oneCell']); intro w1 K1; simp only [List.set, putL_one] at K1; (try rw [v2] at K1); rw [EP.out] at K1; have K2 := Lib.hid K1; clear K1 K; (try clear a0); (try clear l0); (try clear a1); (try clear l1); (try clear a2); (try clear l2); have K := K2; clear K2; have a2 := K.out.rd 2 rfl; have l2 := K.out.ltp 2 rfl) | (go_at_call 16; (with_reducible refine ((CC _ _ _ ((show sat E _ _ from by iterate 6 (try (with_reducible first | exact K.out | apply sat.alloc_any | apply sat.drew | apply sat.drewN))).pick 1 rfl)).out).mono ?_); rintro e w1 ⟨rfl, K1⟩; replace K1 := K1.pick 1 rfl; have K2 := Lib.hid K1; clear K1 K; (try clear a0); (try clear l0); (try clear a1); (try clear l1); (try clear a2); (try clear l2); have K := K2; clear K2) | (go_at_call 46; (with_reducible refine ((AF _ _ _ _ (show sat E _ _ from by iterate 6 (try (with_reducible first | exact K.out | apply sat.alloc_any | apply sat.drew | apply sat.drewN)))).out).mono ?_); rintro e w1 ⟨rfl, hb⟩; have K1 := sat.grown (by repeat (with_reducible first | exact K.out | apply sat.alloc_any | apply sat.drew | apply sat.drewN)) hb; clear hb; have K2 := Lib.hid K1; clear K1 K; (try clear a0); (try clear l0); (try clear a1); (try clear l1); (try clear a2); (try clear l2); have K := K2; clear K2) | (go_at_call 47; (with_reducible refine ((LF _ _ _ _ (show sat E _ _ from by iterate 6 (try (with_reducible first | exact K.out | apply sat.alloc_any | apply sat.drew | apply sat.drewN)))).out).mono ?_); rintro e w1 ⟨rfl, hb⟩; have K1 := sat.grown (by repeat (with_reducible first | exact K.out | apply sat.alloc_any | apply sat.drew | apply sat.drewN)) hb; clear hb; have K2 := Lib.hid K1; clear K1 K; (try clear a0); (try clear l0); (try clear a1); (try clear l1); (try clear a2); (try clear l2); have K := K2; clear K2))
          go_ret
          exact ⟨rfl, K.out.below⟩
      have d2 : (wh == 2) = false := by simpa using q2
      by_cases q3 : wh = 3
      · as_aux_lemma =>
          have d3 : (wh == 3) = true := by simpa using q3
          have v1 : IntKind.u64.wrap by_ = by_ := by rw [IntKind.wrap_u64]; omega
          have AF := AF0 (lg.set i { lg[i] with old := bits .xor .u64 lg[i].old by_ }) lg.length (List.length_set) hlg3 (set_wf hew i ⟨ewf.1, ewf.2.1, xor_u64 _ _, ewf.2.2.2⟩)
          have LF := LF0 (lg.set i { lg[i] with old := bits .xor .u64 lg[i].old by_ }) lg.length (List.length_set) hlg3 (set_wf hew i ⟨ewf.1, ewf.2.1, xor_u64 _ _, ewf.2.2.2⟩)
          have EP := Lib.hid (ev_put lg i hin 3 (by decide) (.int .u64 (bits .xor .u64 lg[i].old by_)) { lg[i] with old := bits .xor .u64 lg[i].old by_ } rfl)
          generalize firstM Y.conf [] (lg.set i { lg[i] with old := bits .xor .u64 lg[i].old by_ }) = res at *
          generalize evCells (lg.set i { lg[i] with old := bits .xor .u64 lg[i].old by_ }) = cells at *
          have RD := Lib.hid (show ∀ (w' : World) (g n c : Nat) (M : List SA), sat E w' (rowA (.slice (some ⟨g, 0, none⟩) n c) 85 6 n (evCells lg) :: M) → w'.cell? ⟨g, i * 6 + 3, none⟩ = some (.int .u64 lg[i].old) from fun w' g n c M h => ev_rd h i hin 3 (by decide) rfl)
          have HF := Lib.hid (show i * 6 + 3 + 1 ≤ (evCells lg).length by rw [evCells_len]; omega)
          generalize lg[i].old = xx at *
          have c2 : (res == res) = true := by simp
          clear hew AF0 LF0 hcY eok ewf q3 hwh8
          go_enter Tryz.func8, Tryz.ntmps8
          go_wp2_with (first | ((with_reducible refine at_box ?_); refine st_boxf K.out rfl rfl (fun _ => rfl) ?_; intro gs w1 K1; have K2 := Lib.hid K1; clear K1 K; (try clear a0); (try clear l0); (try clear a1); (try clear l1); (try clear a2); (try clear l2); have K := K2; clear K2; have a0 := K.out.rd 0 rfl; have l0 := K.out.ltp 0 rfl) | (go_at_call 44; (with_reducible refine ((HD _).out).mono ?_); rintro e w1 ⟨rfl, hb⟩; have K1 := sat.grown (by repeat (with_reducible first | exact K.out | apply sat.alloc_any | apply sat.drew | apply sat.drewN)) hb; clear hb; have K2 := Lib.hid K1; clear K1 K; (try clear a0); (try clear l0); (try clear a1); (try clear l1); (try clear a2); (try clear l2); have K := K2; clear K2; have a0 := K.out.rd 0 rfl; have l0 := K.out.ltp 0 rfl) | (go_at_call 45; (with_reducible refine ((RN _ _ (show sat E _ _ from by iterate 6 (try (with_reducible first | exact K.out | apply sat.alloc_any | apply sat.drew | apply sat.drewN)))).out).mono ?_); rintro e w1 ⟨gy, rfl, K1⟩; have K2 := Lib.hid K1; clear K1 K; (try clear a0); (try clear l0); (try clear a1); (try clear l1); (try clear a2); (try clear l2); have K := K2; clear K2; have a1 := K.out.rd 1 rfl; have l1 := K.out.ltp 1 rfl) | ((go_at_call 14; (with_reducible refine ((LC _ _ _ (show sat E _ _ from by iterate 6 (try (with_reducible first | exact K.out | apply sat.alloc_any | apply sat.drew | apply sat.drewN)))).out).mono ?_); rintro e w1 ⟨p1, k1, rfl, K1⟩; have K2 := Lib.hid K1; clear K1 K; (try clear a0); (try clear l0); (try clear a1); (try clear l1); (try clear a2); (try clear l2); have K := K2; clear K2; have a2 := K.out.rd 2 rfl; have l2 := K.out.ltp 2 rfl); obtain ⟨g1, hg1, _⟩ := Go.SepYtegdhojhnmgjgaaGreat.row_some K.out hpos; subst hg1; have y3 := RD.out _ _ _ _ _ K.out) | ((with_reducible refine at_store ?_); refine st_store_row 0 K.out rfl rfl rfl rfl ?_ ?_ ?_ ?_; (· kernel_rfl); (· exact HF.out); (· simp [Value.oneCell']); intro w1 K1; simp only [List.set, putL_one] at K1; rw [EP.out] at K1; have K2 := Lib.hid K1; clear K1 K; (try clear a0); (try clear l0); (try clear a1); (try clear l1); (try clear a2); (try clear l2); have K := K2; clear K2; have a2 := K.out.rd 2 rfl; have l2 := K.out.ltp 2 rfl) | (go_at_call 16; (with_reducible refine ((CC _ _ _ ((show sat E _ _ from by iterate 6 (try (with_reducible first | exact K.out | apply sat.alloc_any | apply sat.drew | apply sat.drewN))).pick 1 rfl)).out).mono ?_); rintro e w1 ⟨rfl, K1⟩; replace K1 := K1.pick 1 rfl; have K2 := Lib.hid K1; clear K1 K; (try clear a0); (try clear l0); (try clear a1); (try clear l1); (try clear a2); (try clear l2); have K := K2; clear K2) | (go_at_call 46; (with_reducible refine ((AF _ _ _ _ (show sat E _ _ from by iterate 6 (try (with_reducible first | exact K.out | apply sat.alloc_any | apply sat.drew | apply sat.drewN)))).out).mono ?_); rintro e w1 ⟨rfl, hb⟩; have K1 := sat.grown (by repeat (with_reducible first | exact K.out | apply sat.alloc_any | apply sat.drew | apply sat.drewN)) hb; clear hb; have K2 := Lib.hid K1; clear K1 K; (try clear a0); (try clear l0); (try clear a1); (try clear l1); (try clear a2); (try clear l2); have K := K2; clear K2) | (go_at_call 47; (with_reducible refine ((LF _ _ _ _ (show sat E _ _ from by iterate 6 (try (with_reducible first | exact K.out | apply sat.alloc_any | apply sat.drew | apply sat.drewN)))).out).mono ?_); rintro e w1 ⟨rfl, hb⟩; have K1 := sat.grown (by repeat (with_reducible first | exact K.out | apply sat.alloc_any | apply sat.drew | apply sat.drewN)) hb; clear hb; have K2 := Lib.hid K1; clear K1 K; (try clear a0); (try clear l0); (try clear a1); (try clear l1); (try clear a2); (try clear l2); have K := K2; clear K2))
          go_ret
          exact ⟨rfl, K.out.below⟩
      have d3 : (wh == 3) = false := by simpa using q3
      by_cases q4 : wh = 4
      · as_aux_lemma =>
          have d4 : (wh == 4) = true := by simpa using q4
          have v1 : IntKind.u64.wrap by_ = by_ := by rw [IntKind.wrap_u64]; omega
          have AF := AF0 (lg.set i { lg[i] with new := bits .xor .u64 lg[i].new by_ }) lg.length (List.length_set) hlg3 (set_wf hew i ⟨ewf.1, ewf.2.1, ewf.2.2.1, xor_u64 _ _⟩)
          have LF := LF0 (lg.set i { lg[i] with new := bits .xor .u64 lg[i].new by_ }) lg.length (List.length_set) hlg3 (set_wf hew i ⟨ewf.1, ewf.2.1, ewf.2.2.1, xor_u64 _ _⟩)
          have EP := Lib.hid (ev_put lg i hin 4 (by decide) (.int .u64 (bits .xor .u64 lg[i].new by_)) { lg[i] with new := bits .xor .u64 lg[i].new by_ } rfl)
          generalize firstM Y.conf [] (lg.set i { lg[i] with new := bits .xor .u64 lg[i].new by_ }) = res at *
          generalize evCells (lg.set i { lg[i] with new := bits .xor .u64 lg[i].new by_ }) = cells at *
          have RD := Lib.hid (show ∀ (w' : World) (g n c : Nat) (M : List SA), sat E w' (rowA (.slice (some ⟨g, 0, none⟩) n c) 85 6 n (evCells lg) :: M) → w'.cell? ⟨g, i * 6 + 4, none⟩ = some (.int .u64 lg[i].new) from fun w' g n c M h => ev_rd h i hin 4 (by decide) rfl)
          have HF := Lib.hid (show i * 6 + 4 + 1 ≤ (evCells lg).length by rw [evCells_len]; omega)
          generalize lg[i].new = xx at *
          have c2 : (res == res) = true := by simp
          clear hew AF0 LF0 hcY eok ewf q4 hwh8
          go_enter Tryz.func8, Tryz.ntmps8
          go_wp2_with (first | ((with_reducible refine at_box ?_); refine st_boxf K.out rfl rfl (fun _ => rfl) ?_; intro gs w1 K1; have K2 := Lib.hid K1; clear K1 K; (try clear a0); (try clear l0); (try clear a1); (try clear l1); (try clear a2); (try clear l2); have K := K2; clear K2; have a0 := K.out.rd 0 rfl; have l0 := K.out.ltp 0 rfl) | (go_at_call 44; (with_reducible refine ((HD _).out).mono ?_); rintro e w1 ⟨rfl, hb⟩; have K1 := sat.grown (by repeat (with_reducible first | exact K.out | apply sat.alloc_any | apply sat.drew | apply sat.drewN)) hb; clear hb; have K2 := Lib.hid K1; clear K1 K; (try clear a0); (try clear l0); (try clear a1); (try clear l1); (try clear a2); (try clear l2); have K := K2; clear K2; have a0 := K.out.rd 0 rfl; have l0 := K.out.ltp 0 rfl) | (go_at_call 45; (with_reducible refine ((RN _ _ (show sat E _ _ from by iterate 6 (try (with_reducible first | exact K.out | apply sat.alloc_any | apply sat.drew | apply sat.drewN)))).out).mono ?_); rintro e w1 ⟨gy, rfl, K1⟩; have K2 := Lib.hid K1; clear K1 K; (try clear a0); (try clear l0); (try clear a1); (try clear l1); (try clear a2); (try clear l2); have K := K2; clear K2; have a1 := K.out.rd 1 rfl; have l1 := K.out.ltp 1 rfl) | ((go_at_call 14; (with_reducible refine ((LC _ _ _ (show sat E _ _ from by iterate 6 (try (with_reducible first | exact K.out | apply sat.alloc_any | apply sat.drew | apply sat.drewN)))).out).mono ?_); rintro e w1 ⟨p1, k1, rfl, K1⟩; have K2 := Lib.hid K1; clear K1 K; (try clear a0); (try clear l0); (try clear a1); (try clear l1); (try clear a2); (try clear l2); have K := K2; clear K2; have a2 := K.out.rd 2 rfl; have l2 := K.out.ltp 2 rfl); obtain ⟨g1, hg1, _⟩ := Go.SepYtegdhojhnmgjgaaGreat.row_some K.out hpos; subst hg1; have y4 := RD.out _ _ _ _ _ K.out) | ((with_reducible refine at_store ?_); refine st_store_row 0 K.out rfl rfl rfl rfl ?_ ?_ ?_ ?_; (· kernel_rfl); (· exact HF.out); (· simp [Value.oneCell']); intro w1 K1; simp only [List.set, putL_one] at K1; rw [EP.out] at K1; have K2 := Lib.hid K1; clear K1 K; (try clear a0); (try clear l0); (try clear a1); (try clear l1); (try clear a2); (try clear l2); have K := K2; clear K2; have a2 := K.out.rd 2 rfl; have l2 := K.out.ltp 2 rfl) | (go_at_call 16; (with_reducible refine ((CC _ _ _ ((show sat E _ _ from by iterate 6 (try (with_reducible first | exact K.out | apply sat.alloc_any | apply sat.drew | apply sat.drewN))).pick 1 rfl)).out).mono ?_); rintro e w1 ⟨rfl, K1⟩; replace K1 := K1.pick 1 rfl; have K2 := Lib.hid K1; clear K1 K; (try clear a0); (try clear l0); (try clear a1); (try clear l1); (try clear a2); (try clear l2); have K := K2; clear K2) | (go_at_call 46; (with_reducible refine ((AF _ _ _ _ (show sat E _ _ from by iterate 6 (try (with_reducible first | exact K.out | apply sat.alloc_any | apply sat.drew | apply sat.drewN)))).out).mono ?_); rintro e w1 ⟨rfl, hb⟩; have K1 := sat.grown (by repeat (with_reducible first | exact K.out | apply sat.alloc_any | apply sat.drew | apply sat.drewN)) hb; clear hb; have K2 := Lib.hid K1; clear K1 K; (try clear a0); (try clear l0); (try clear a1); (try clear l1); (try clear a2); (try clear l2); have K := K2; clear K2) | (go_at_call 47; (with_reducible refine ((LF _ _ _ _ (show sat E _ _ from by iterate 6 (try (with_reducible first | exact K.out | apply sat.alloc_any | apply sat.drew | apply sat.drewN)))).out).mono ?_); rintro e w1 ⟨rfl, hb⟩; have K1 := sat.grown (by repeat (with_reducible first | exact K.out | apply sat.alloc_any | apply sat.drew | apply sat.drewN)) hb; clear hb; have K2 := Lib.hid K1; clear K1 K; (try clear a0); (try clear l0); (try clear a1); (try clear l1); (try clear a2); (try clear l2); have K := K2; clear K2))
          go_ret
          exact ⟨rfl, K.out.below⟩
      have d4 : (wh == 4) = false := by simpa using q4
      by_cases q5 : wh = 5
      · as_aux_lemma =>
          have d5 : (wh == 5) = true := by simpa using q5
          have AF := AF0 (lg.set i { lg[i] with ok := !lg[i].ok }) lg.length (List.length_set) hlg3 (set_wf hew i ⟨ewf.1, ewf.2.1, ewf.2.2.1, ewf.2.2.2⟩)
          have LF := LF0 (lg.set i { lg[i] with ok := !lg[i].ok }) lg.length (List.length_set) hlg3 (set_wf hew i ⟨ewf.1, ewf.2.1, ewf.2.2.1, ewf.2.2.2⟩)
          have EP := Lib.hid (ev_put lg i hin 5 (by decide) (.bool (!lg[i].ok)) { lg[i] with ok := !lg[i].ok } rfl)
          generalize firstM Y.conf [] (lg.set i { lg[i] with ok := !lg[i].ok }) = res at *
          generalize evCells (lg.set i { lg[i] with ok := !lg[i].ok }) = cells at *
          have RD := Lib.hid (show ∀ (w' : World) (g n c : Nat) (M : List SA), sat E w' (rowA (.slice (some ⟨g, 0, none⟩) n c) 85 6 n (evCells lg) :: M) → w'.cell? ⟨g, i * 6 + 5, none⟩ = some (.bool lg[i].ok) from fun w' g n c M h => ev_rd h i hin 5 (by decide) rfl)
          have HF := Lib.hid (show i * 6 + 5 + 1 ≤ (evCells lg).length by rw [evCells_len]; omega)
          generalize lg[i].ok = xx at *
          have c2 : (res == res) = true := by simp
          clear hew AF0 LF0 hcY eok ewf q5 hwh8
          go_enter Tryz.func8, Tryz.ntmps8
          go_wp2_with (first | ((with_reducible refine at_box ?_); refine st_boxf K.out rfl rfl (fun _ => rfl) ?_; intro gs w1 K1; have K2 := Lib.hid K1; clear K1 K; (try clear a0); (try clear l0); (try clear a1); (try clear l1); (try clear a2); (try clear l2); have K := K2; clear K2; have a0 := K.out.rd 0 rfl; have l0 := K.out.ltp 0 rfl) | (go_at_call 44; (with_reducible refine ((HD _).out).mono ?_); rintro e w1 ⟨rfl, hb⟩; have K1 := sat.grown (by repeat (with_reducible first | exact K.out | apply sat.alloc_any | apply sat.drew | apply sat.drewN)) hb; clear hb; have K2 := Lib.hid K1; clear K1 K; (try clear a0); (try clear l0); (try clear a1); (try clear l1); (try clear a2); (try clear l2); have K := K2; clear K2; have a0 := K.out.rd 0 rfl; have l0 := K.out.ltp 0 rfl) | (go_at_call 45; (with_reducible refine ((RN _ _ (show sat E _ _ from by iterate 6 (try (with_reducible first | exact K.out | apply sat.alloc_any | apply sat.drew | apply sat.drewN)))).out).mono ?_); rintro e w1 ⟨gy, rfl, K1⟩; have K2 := Lib.hid K1; clear K1 K; (try clear a0); (try clear l0); (try clear a1); (try clear l1); (try clear a2); (try clear l2); have K := K2; clear K2; have a1 := K.out.rd 1 rfl; have l1 := K.out.ltp 1 rfl) | ((go_at_call 14; (with_reducible refine ((LC _ _ _ (show sat E _ _ from by iterate 6 (try (with_reducible first | exact K.out | apply sat.alloc_any | apply sat.drew | apply sat.drewN)))).out).mono ?_); rintro e w1 ⟨p1, k1, rfl, K1⟩; have K2 := Lib.hid K1; clear K1 K; (try clear a0); (try clear l0); (try clear a1); (try clear l1); (try clear a2); (try clear l2); have K := K2; clear K2; have a2 := K.out.rd 2 rfl; have l2 := K.out.ltp 2 rfl); obtain ⟨g1, hg1, _⟩ := Go.SepYtegdhojhnmgjgaaGreat.row_some K.out hpos; subst hg1; have y5 := RD.out _ _ _ _ _ K.out) | ((with_reducible refine at_store ?_); refine st_store_row 0 K.out rfl rfl rfl rfl ?_ ?_ ?_ ?_; (· kernel_rfl); (· exact HF.out); (· simp [Value.oneCell']); intro w1 K1; simp only [List.set, putL_one] at K1; rw [EP.out] at K1; have K2 := Lib.hid K1; clear K1 K; (try clear a0); (try clear l0); (try clear a1); (try clear l1); (try clear a2); (try clear l2); have K := K2; clear K2; have a2 := K.out.rd 2 rfl; have l2 := K.out.ltp 2 rfl) | (go_at_call 16; (with_reducible refine ((CC _ _ _ ((show sat E _ _ from by iterate 6 (try (with_reducible first | exact K.out | apply sat.alloc_any | apply sat.drew | apply sat.drewN))).pick 1 rfl)).out).mono ?_); rintro e w1 ⟨rfl, K1⟩; replace K1 := K1.pick 1 rfl; have K2 := Lib.hid K1; clear K1 K; (try clear a0); (try clear l0); (try clear a1); (try clear l1); (try clear a2); (try clear l2); have K := K2; clear K2) | (go_at_call 46; (with_reducible refine ((AF _ _ _ _ (show sat E _ _ from by iterate 6 (try (with_reducible first | exact K.out | apply sat.alloc_any | apply sat.drew | apply sat.drewN)))).out).mono ?_); rintro e w1 ⟨rfl, hb⟩; have K1 := sat.grown (by repeat (with_reducible first | exact K.out | apply sat.alloc_any | apply sat.drew | apply sat.drewN)) hb; clear hb; have K2 := Lib.hid K1; clear K1 K; (try clear a0); (try clear l0); (try clear a1); (try clear l1); (try clear a2); (try clear l2); have K := K2; clear K2) | (go_at_call 47; (with_reducible refine ((LF _ _ _ _ (show sat E _ _ from by iterate 6 (try (with_reducible first | exact K.out | apply sat.alloc_any | apply sat.drew | apply sat.drewN)))).out).mono ?_); rintro e w1 ⟨rfl, hb⟩; have K1 := sat.grown (by repeat (with_reducible first | exact K.out | apply sat.alloc_any | apply sat.drew | apply sat.drewN)) hb; clear hb; have K2 := Lib.hid K1; clear K1 K; (try clear a0); (try clear l0); (try clear a1); (try clear l1); (try clear a2); (try clear l2); have K := K2; clear K2))
          go_ret
          exact ⟨rfl, K.out.below⟩
      have d5 : (wh == 5) = false := by simpa using q5
      as_aux_lemma =>
        have hw2 : ∀ e ∈ lg.take i ++ lg.drop (i + 1), Ev.wf e := fun e he => by rcases List.mem_append.1 he with q | q; exact hew e (List.mem_of_mem_take q); exact hew e (List.mem_of_mem_drop q)
        have hl2 : (lg.take i ++ lg.drop (i + 1)).length = i + (lg.length - (i + 1)) := by rw [List.length_append, List.length_take, List.length_drop]; omega
        have AF := AF0 (lg.take i ++ lg.drop (i + 1)) _ hl2 (by omega) hw2
        have LF := LF0 (lg.take i ++ lg.drop (i + 1)) _ hl2 (by omega) hw2
        obtain ⟨i1, hi1⟩ : ∃ z : Nat, z = i + 1 := ⟨_, rfl⟩
        rw [← hi1] at hw2 hl2 AF LF
        obtain ⟨iI, hiI⟩ : ∃ z : Int, z = (i : Int) := ⟨_, rfl⟩
        obtain ⟨jI, hjI⟩ : ∃ z : Int, z = (i1 : Int) := ⟨_, rfl⟩
        have v1 : wrap64 (iI + 1) = jI := by rw [w64 (by omega) (by omega)]; omega
        have v2 : IntKind.i64.wrap (iI + 1) = jI := by rw [wi (by omega) (by omega)]; omega
        have v3 : jI.toNat = i1 := by omega
        have v4 : 0 ≤ jI := by omega
        have v5 : jI ≤ (lg.length : Int) := by omega
        rw [← hiI] at et z3 z4 z5 z6
        have v6 : i1 ≤ lg.length := by omega
        have hik : i ≤ lg.length := by omega
        have c2 : (firstM Y.conf [] (lg.take i ++ lg.drop i1) == firstM Y.conf [] (lg.take i ++ lg.drop i1)) = true := by simp
        have NW := Lib.hid (show ∀ (w' : World) (g n c : Nat) (M : List SA), sat E w' (rowA (.slice (some ⟨g, 0, none⟩) n c) 85 6 n (evCells lg) :: M) → ∀ j u, (evCells (lg.drop i1))[j]? = some u → w'.cell? ⟨g, i1 * 6 + j, none⟩ = some u from fun w' g n c M h j u hj => h.row_rd 0 rfl _ u (by rw [← fm_drop, List.getElem?_drop] at hj; exact hj))
        clear hew AF0 LF0 hcY eok ewf hwh8 hi1 hiI hjI hw2
        go_enter Tryz.func8, Tryz.ntmps8
        go_wp2_with (first | ((with_reducible refine at_box ?_); refine st_boxf K.out rfl rfl (fun _ => rfl) ?_; intro gs w1 K1; have K2 := Lib.hid K1; clear K1 K; (try clear a0); (try clear l0); (try clear a1); (try clear l1); (try clear a2); (try clear l2); have K := K2; clear K2; have a0 := K.out.rd 0 rfl; have l0 := K.out.ltp 0 rfl) | (go_at_call 44; (with_reducible refine ((HD _).out).mono ?_); rintro e w1 ⟨rfl, hb⟩; have K1 := sat.grown (by repeat (with_reducible first | exact K.out | apply sat.alloc_any | apply sat.drew | apply sat.drewN)) hb; clear hb; have K2 := Lib.hid K1; clear K1 K; (try clear a0); (try clear l0); (try clear a1); (try clear l1); (try clear a2); (try clear l2); have K := K2; clear K2; have a0 := K.out.rd 0 rfl; have l0 := K.out.ltp 0 rfl) | (go_at_call 45; (with_reducible refine ((RN _ _ (show sat E _ _ from by iterate 6 (try (with_reducible first | exact K.out | apply sat.alloc_any | apply sat.drew | apply sat.drewN)))).out).mono ?_); rintro e w1 ⟨gy, rfl, K1⟩; have K2 := Lib.hid K1; clear K1 K; (try clear a0); (try clear l0); (try clear a1); (try clear l1); (try clear a2); (try clear l2); have K := K2; clear K2; have a1 := K.out.rd 1 rfl; have l1 := K.out.ltp 1 rfl) | ((go_at_call 14; (with_reducible refine ((LC _ _ _ (show sat E _ _ from by iterate 6 (try (with_reducible first | exact K.out | apply sat.alloc_any | apply sat.drew | apply sat.drewN)))).out).mono ?_); rintro e w1 ⟨p1, k1, rfl, K1⟩; have K2 := Lib.hid K1; clear K1 K; (try clear a0); (try clear l0); (try clear a1); (try clear l1); (try clear a2); (try clear l2); have K := K2; clear K2; have a2 := K.out.rd 2 rfl; have l2 := K.out.ltp 2 rfl); obtain ⟨g1, hg1, _⟩ := Go.SepYtegdhojhnmgjgaaGreat.row_some K.out hpos; subst hg1))
        have hcap := row_capE K.out
        have hik2 : i ≤ k1 := by omega
        have hik3 : iI ≤ (k1 : Int) := by omega
        have hm0 : 0 < lg.length - i1 → ¬ k1 = i1 := by omega
        refine wp_region_noPanic ?_
        refine wp_region_held_drew (S := (fun w' => (∀ q, w'.cell? ⟨gs, q, none⟩ = ([.int .i64 sp.at_, .int .i64 sp.what, .int .i64 sp.by_] : List Value)[q]?))) (by kernel_rfl) ?_ (fun hHeld => ?_)
        · ((try dsimp only); (exact sat.rd 2 (by repeat (with_reducible first | exact K.out | apply sat.alloc_any | apply sat.drew | apply sat.drewN)) rfl))
        refine tk 0 (some 46) ?_
        (try simp only [Act.put, p0, p1, p2])
        refine tk 1 (some 47) ?_
        (try simp only [Act.put, p0, p1, p2])
        refine tk 2 (some 48) ?_
        (try simp only [Act.put, p0, p1, p2])
        refine tk 3 (some 49) ?_
        (try simp only [Act.put, p0, p1, p2])
        refine tk 4 (some 50) ?_
        (try simp only [Act.put, p0, p1, p2])
        refine tk 5 (some 51) ?_
        (try simp only [Act.put, p0, p1, p2])
        refine tk 6 (some 52) ?_
        (try simp only [Act.put, p0, p1, p2])
        refine tk 7 (some 53) ?_
        (try simp only [Act.put, p0, p1, p2])
        refine tk 8 (some 54) ?_
        (try simp only [Act.put, p0, p1, p2])
        refine tk 9 (some 55) ?_
        (try simp only [Act.put, p0, p1, p2])
        refine tk 10 (some 56) ?_
        (try simp only [Act.put, p0, p1, p2])
        refine tk 11 (some 57) ?_
        (try simp only [Act.put, p0, p1, p2])
        refine tk 12 (some 58) ?_
        (try simp only [Act.put, p0, p1, p2])
        refine tk 13 (some 59) ?_
        (try simp only [Act.put, p0, p1, p2])
        refine tk 14 (some 60) ?_
        (try simp only [Act.put, p0, p1, p2])
        refine tk 15 (some 61) ?_
        (try simp only [Act.put, p0, p1, p2])
        refine tk 16 (some 62) ?_
        (try simp only [Act.put, p0, p1, p2])
        refine wpAnyH_ready (rs := [17]) (by kernel_rfl) (by simp) ?_
        refine AllReadyH.cons (o := _) rfl (fun kC hkC => ?_) AllReadyH.nil
        (refine rg_append_part_d (E := E) (d := some 63) 0 (by kernel_rfl) rfl rfl 85 6 48 Tryz.underlying39 evInfo (row_cutE (show sat E _ _ from by first | exact K.out | exact K.out.drew) i (by omega)) rfl rfl (news := evCells (lg.drop i1)) rfl ?_ ?_ ?_ ?_ ?_ ?_; (· rw [evCells_len, List.length_drop]; (try omega)); (· first | exact fun h0 => ⟨g1, i1 * 6, if_neg (hm0 h0), NW.out _ _ _ _ _ (show sat E _ _ from by first | exact K.out | exact K.out.drew)⟩ | (intro h; omega)); (· exact fm_one ev_oneC _); (· simp only [maxLen]; omega); (· omega); intro p2 n2 c2 w1 K1; simp only [List.set] at K1; have K2 := Lib.hid K1; clear K1 K; (try clear a0); (try clear l0); (try clear f0); (try clear a1); (try clear l1); (try clear f1); (try clear a2); (try clear l2); (try clear f2); (try clear a3); (try clear l3); (try clear f3); (try clear a4); (try clear l4); (try clear f4); (try clear a5); (try clear l5); (try clear f5); have K := K2; clear K2; (try have a0 := K.out.rd 0 rfl); (try have l0 := K.out.ltp 0 rfl); (try have f0 := K.out.fr 0 rfl); (try have a1 := K.out.rd 1 rfl); (try have l1 := K.out.ltp 1 rfl); (try have f1 := K.out.fr 1 rfl); (try have a2 := K.out.rd 2 rfl); (try have l2 := K.out.ltp 2 rfl); (try have f2 := K.out.fr 2 rfl); (try have a3 := K.out.rd 3 rfl); (try have l3 := K.out.ltp 3 rfl); (try have f3 := K.out.fr 3 rfl))
        refine shown hkC _ _ (by (try dsimp only); (exact sat.rd 2 (by repeat (with_reducible first | exact K.out | apply sat.alloc_any | apply sat.drew | apply sat.drewN)) rfl)) ?_; clear hkC kC hHeld; intro hHeld
        (try simp only [Act.put, p0, p1, p2])
        refine tk 18 (some 12) ?_
        (try simp only [Act.put, p0, p1, p2])
        refine wpAnyH_done (by kernel_rfl) (NoPanic.normal ?_) _
        all_goals
          (try simp only [Act.put, Go.SepYtegdhojhnmgjgaaGreat.p0, Go.SepYtegdhojhnmgjgaaGreat.p1, Go.SepYtegdhojhnmgjgaaGreat.p2])
          have K1 := K.out
          rw [fm_take, evCells_app] at K1
          obtain ⟨hq, _⟩ := Go.SepYtegdhojhnmgjgaaGreat.row_len K1
          subst hq
          clear K
          have K := Lib.hid K1
          clear K1 hm0
          generalize evCells (lg.take i ++ lg.drop i1) = cells at *
          generalize firstM Y.conf [] (lg.take i ++ lg.drop i1) = res at *
          go_wp2_with (first | (go_at_call 16; (with_reducible refine ((CC _ _ _ ((show sat E _ _ from by iterate 6 (try (with_reducible first | exact K.out | apply sat.alloc_any | apply sat.drew | apply sat.drewN))).pick 1 rfl)).out).mono ?_); rintro e w1 ⟨rfl, K1⟩; replace K1 := K1.pick 1 rfl; have K2 := Lib.hid K1; clear K1 K; (try clear a0); (try clear l0); (try clear a1); (try clear l1); (try clear a2); (try clear l2); have K := K2; clear K2) | (go_at_call 46; (with_reducible refine ((AF _ _ _ _ (show sat E _ _ from by iterate 6 (try (with_reducible first | exact K.out | apply sat.alloc_any | apply sat.drew | apply sat.drewN)))).out).mono ?_); rintro e w1 ⟨rfl, hb⟩; have K1 := sat.grown (by repeat (with_reducible first | exact K.out | apply sat.alloc_any | apply sat.drew | apply sat.drewN)) hb; clear hb; have K2 := Lib.hid K1; clear K1 K; (try clear a0); (try clear l0); (try clear a1); (try clear l1); (try clear a2); (try clear l2); have K := K2; clear K2) | (go_at_call 47; (with_reducible refine ((LF _ _ _ _ (show sat E _ _ from by iterate 6 (try (with_reducible first | exact K.out | apply sat.alloc_any | apply sat.drew | apply sat.drewN)))).out).mono ?_); rintro e w1 ⟨rfl, hb⟩; have K1 := sat.grown (by repeat (with_reducible first | exact K.out | apply sat.alloc_any | apply sat.drew | apply sat.drewN)) hb; clear hb; have K2 := Lib.hid K1; clear K1 K; (try clear a0); (try clear l0); (try clear a1); (try clear l1); (try clear a2); (try clear l2); have K := K2; clear K2))
          all_goals
            go_ret
            exact ⟨rfl, K.out.below⟩
theorem auditFinds_calls (W : World) (t : Int) (_ : (Lit.int .i64 t).wf = true) (s : Int) (_ : (Lit.int .i64 s).wf = true) (r : Int) (_ : (Lit.int .i64 r).wf = true) (a : Option Addr) (len cap : Nat) (rows : List (List Value)) (h : RowsAt W [.int .i64, .int .i64, .bool, .bool, .int .u64, .int .i64, .int .i64] a len cap rows) (cs : List Value) (hcs : okAll [.int .i64, .int .i64, .int .i64] cs) :
    Calls Tryz.prog 8 #[.int .i64 t, .int .i64 s, .int .i64 r, .slice a len cap, .agg cs.toArray] W fun e W' => e = .returned (.bool true) ∧ Below W.heap.size W W' := by
  obtain ⟨l, rfl, hwf, ho⟩ := oldM_of h
  obtain ⟨n0, v0, rfl, h0, k0⟩ := okAll_int hcs
  obtain ⟨n1, v1, rfl, h1, k1⟩ := okAll_int k0
  obtain ⟨n2, v2, rfl, h2, k2⟩ := okAll_int k1
  obtain rfl := okAll_nil k2
  exact auditFinds_main t s r a l cap ⟨n0, n1, n2⟩ W hwf ho
end Go.Proofs.YtegdhojhnmgjgaaGreat
