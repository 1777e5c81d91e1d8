/- What was noted of cells, done again (mem.Back). Conditions: the events agree (backs), are within their kinds, and lie in a row of one's own. -/
import Derived.Test.YtdjkblnocooldaaGreatBo
import Derived.Test.YtdjkblnocooldaaGreatB2
namespace Go.Proofs.YtdjkblnocooldaaGreat
open Go.RowKit Go.SepYtdjkblnocooldaaGreat
set_option linter.unusedSimpArgs false
set_option linter.unusedVariables false
set_option maxRecDepth 100000
set_option maxHeartbeats 4000000
theorem oldS_evB {E w : World} {L : List SA} {p : Option Addr} {n c t : Nat} {l : List Ev} (h : sat E w (rowA (.slice p n c) t 6 l.length (evCells l) :: L)) : OldS Ev.cells 6 w p l := oldS_row ev_sz h
abbrev evValB (e : Ev) : Value := .agg #[.int .i64 e.who, .int .i64 e.op, .int .i64 e.cell, .int .u64 e.old, .int .u64 e.new, .bool e.ok]
theorem neqEB (e : Ev) (w : World) : (binOp .neq 55 (evValB e) (evValB e)).run Tryz.prog w = .ok (.bool false) w := by
  generalize e.who = a1
  generalize e.op = a2
  generalize e.cell = a3
  generalize e.old = a4
  generalize e.new = a5
  generalize e.ok = a6
  go_simp
attribute [local go_sem] neqEB
structure BackAt (m0 : MemM) (l : List Ev) (j : Nat) (hj : j < l.length) (mm m' : MemM) : Prop where
  ok : backOk mm l[j] = true
  step : m' = mm.touch l[j].who l[j].op l[j].cell (backOld l[j]) (backNext l[j])
  last : (mm.touch l[j].who l[j].op l[j].cell (backOld l[j]) (backNext l[j])).log.getLast? = some l[j]
  next : backs m0 (l.take (j + 1)) = some m'
theorem backs_at {m0 m : MemM} {l : List Ev} (h : backs m0 l = some m) {j : Nat} (hj : j < l.length) {mm : MemM} (hm : backs m0 (l.take j) = some mm) : ∃ m', BackAt m0 l j hj mm m' := by
  have e : l = l.take j ++ (l[j] :: l.drop (j + 1)) := by rw [← List.drop_eq_getElem_cons hj, List.take_append_drop]
  have h' := h
  rw [e, backs_append, hm] at h'
  simp only [backs] at h'
  cases hs : backStep mm l[j] with
  | none => rw [hs] at h'; cases h'
  | some m' =>
    have hs' := hs
    unfold backStep at hs
    split at hs
    · cases hs
    · rename_i hok
      split at hs
      · rename_i hl
        simp only [Option.some.injEq] at hs
        exact ⟨m', by simpa using hok, hs.symm, hl, by rw [List.take_succ_eq_append_getElem hj, backs_append, hm]; simp only [backs, hs']⟩
      · cases hs
section
variable {E w : World} {L : List SA}
theorem back_calls (n : Nat) (hn : n ≤ 65536) (l : List Ev) (p : Option Addr) (cap : Nat) (m : MemM) (hb : backs (MemM.new n) l = some m) (hl : l.length ≤ 1000000) (hwf : ∀ e ∈ l, (0 ≤ e.old ∧ e.old < 18446744073709551616) ∧ (0 ≤ e.new ∧ e.new < 18446744073709551616))
    (h : sat E w (rowA (.slice p l.length cap) 55 6 l.length (evCells l) :: L)) :
    Calls Tryz.prog 41 #[.int .i64 n, .slice p l.length cap] w fun e w' => ∃ g, e = .returned (.tuple #[.pointer (some ⟨g, 0, none⟩), .bool true]) ∧ sat E w' (memA g m :: rowA (.slice p l.length cap) 55 6 l.length (evCells l) :: L) := by
  have K := Lib.hid h
  clear h
  have MN := fun w' (M : List SA) (h : sat E w' M) => Lib.hid (memnew_calls n hn h)
  have HB := Lib.hid hb
  have HW := Lib.hid hwf
  clear hb hwf
  go_enter Tryz.func41, Tryz.ntmps41
  go_wp2_with ((go_at_call 25; (with_reducible refine ((MN _ _ (show sat E _ _ from by iterate 6 (try (with_reducible first | exact K.out | apply sat.alloc_any | apply sat.drew | apply sat.drewN)))).out).mono ?_); rintro e w1 ⟨gm, rfl, K1⟩; have K2 := Lib.hid K1; clear K1 K; (try clear a0); (try clear l0); (try clear a1); (try clear l1); (try clear a2); (try clear l2); have K := K2; clear K2))
  go_loopg [15] l.length (fun GG i w' => ∃ (j : Nat) (mm : MemM), j + GG = l.length ∧ i = .int .i64 j ∧ backs (MemM.new n) (l.take j) = some mm ∧ mm.log.length ≤ j ∧ sat E w' (memA gm mm :: rowA (.slice p l.length cap) 55 6 l.length (evCells l) :: L))
  case atStart => exact ⟨0, _, by simp, rfl, rfl, Nat.le_refl _, K.out⟩
  case round =>
    obtain ⟨j, mm, hj, rfl, hbs, hlg, hs⟩ := hrel
    clear K
    have K := Lib.hid hs
    clear hs
    have HJ := Lib.hid hj
    by_cases hlt : j < l.length
    · have d0 : decide (j < l.length) = true := by simpa using hlt
      obtain ⟨m', HA⟩ := backs_at HB.out hlt hbs
      obtain ⟨g1, hg1, _⟩ := Go.SepYtdjkblnocooldaaGreat.row_some (K.out.pick 1 rfl) (by omega)
      subst hg1
      have hx : ∀ i u, (Ev.cells l[j])[i]? = some u → wr.cell? ⟨g1, j * 6 + i, none⟩ = some u := by
        intro i u hi
        obtain ⟨b, off, e1, e2, e3⟩ := oldS_evB (K.out.pick 1 rfl) j hlt
        simp only [Option.some.injEq, Addr.mk.injEq] at e1
        obtain ⟨rfl, rfl, _⟩ := e1
        have := e3 i u hi
        simpa using this
      have y0 : wr.cell? ⟨g1, j * 6, none⟩ = _ := hx 0 _ rfl
      have y1 := hx 1 _ rfl; have y2 := hx 2 _ rfl; have y3 := hx 3 _ rfl; have y4 := hx 4 _ rfl; have y5 := hx 5 _ rfl
      have hw := HW.out l[j] (List.getElem_mem _)
      have hnext := HA.next
      have hstep := HA.step
      have hlast := HA.last
      have hok := HA.ok
      have hne : l[j] = l[j] := rfl
      clear HA hx hbs
      obtain ⟨gk', rfl⟩ : ∃ g', gk = g' + 1 := ⟨gk - 1, by omega⟩
      have hj3 : j < 1000001 := by omega
      generalize l[j] = e at *
      have hok2 : (0 ≤ e.op ∧ e.op ≤ 3) ∧ mm.has e.cell := by
        unfold backOk at hok
        simpa [and_assoc] using hok
      have t1 : decide (e.op < 0) = false := by simp; omega
      have t2 : decide (e.op > 3) = false := by simp; omega
      have TH := fun w' (M : List SA) (h : sat E w' (memA gm mm :: M)) => Lib.hid (there_calls gm mm e.cell E w' M h)
      have tt : (decide (0 ≤ e.cell) && decide (e.cell < mm.cells.length)) = true := by
        have := hok2.2
        unfold MemM.has at this
        simp [this.1, this.2]
      rw [tt] at TH
      have hml : m'.log.length ≤ j + 1 := by rw [hstep]; have := MemM.touch_log mm e.who e.op e.cell (backOld e) (backNext e); omega
      have hnb : 0 ≤ backNext e ∧ backNext e < 18446744073709551616 := by unfold backNext; split <;> omega
      have TC := fun w' (M : List SA) (h : sat E w' (memA gm mm :: M)) => Lib.hid (touch_calls gm mm e.who e.op e.cell (backOld e) (backNext e) hnb (by omega) h)
      rw [← hstep] at TC hlast
      have hpos : 0 < m'.log.length := by
        cases q : m'.log with
        | nil => rw [q] at hlast; cases hlast
        | cons a b => simp
      have hlastx : m'.log[m'.log.length - 1]? = some e := by
        rw [List.getLast?_eq_getElem?] at hlast
        exact hlast
      have wl : wrap64 ((m'.log.length : Int) - 1) = ((m'.log.length - 1 : Nat) : Int) := by rw [w64 (by omega) (by omega)]; omega
      have wl2 : IntKind.i64.wrap ((m'.log.length : Int) - 1) = ((m'.log.length - 1 : Nat) : Int) := by rw [wi (by omega) (by omega)]; omega
      have wl3 : m'.log.length - 1 < m'.log.length := by omega
      have HS := Lib.hid (And.intro hnext (And.intro hml (And.intro hlastx hpos)))
      have n3 : e.op = 3 → backNext e = IntKind.u64.wrap (e.new - e.old) := fun q => by unfold backNext; rw [if_pos q, IntKind.wrap_u64]
      have n0 : e.op ≠ 3 → backNext e = e.new := fun q => by unfold backNext; rw [if_neg q]
      have o2 : e.op = 2 → e.ok = false → backOld e = IntKind.u64.wrap (e.old + 1) := fun q r => by unfold backOld; rw [if_pos ⟨q, r⟩, IntKind.wrap_u64]
      have o0 : ¬ (e.op = 2 ∧ e.ok = false) → backOld e = e.old := fun q => by unfold backOld; rw [if_neg q]
      clear hnext hstep hlast hok hok2 tt hnb hml hw hlg hj hlastx hpos
      have hcase : ∃ (b3 b2 : Bool), (e.op == 3) = b3 ∧ (e.op == 2) = b2 := ⟨_, _, rfl, rfl⟩
      by_cases q3 : e.op = 3
      · have f3 : (e.op == 3) = true := by simpa using q3
        have f2 : (e.op == 2) = false := by simp; omega
        rw [n3 q3, o0 (by rintro ⟨q, _⟩; omega)] at TC
        clear q3 n3 n0 o2 o0 hcase
        go_wp2_with fail
        have K1 := K.out.alloc (.cells #[.int .i64 e.who, .int .i64 e.op, .int .i64 e.cell, .int .u64 e.old, .int .u64 e.new, .bool e.ok] 55)
        obtain ⟨gd, hgd⟩ : ∃ g, g = wr.heap.size := ⟨_, rfl⟩
        rw [← hgd] at K1 ⊢
        clear K hgd y0 y1 y2 y3 y4 y5
        have K := Lib.hid K1
        clear K1
        have a0 := K.out.rd 0 rfl; have l0 := K.out.ltp 0 rfl
        go_wp2_with (first | (go_at_call 79; (with_reducible refine (TH _ _ (K.out.pick 1 rfl)).out.mono ?_); rintro e w1 ⟨rfl, rfl⟩) | (go_at_call 80; (with_reducible refine ((TC _ _ ((show sat E _ _ from by iterate 6 (try (with_reducible first | exact K.out | apply sat.alloc_any | apply sat.drew | apply sat.drewN))).pick 1 rfl)).out).mono ?_); rintro e w1 ⟨rfl, K1⟩; have K2 := Lib.hid K1; clear K1 K; (try clear a0); (try clear l0); (try clear a1); (try clear l1); (try clear a2); (try clear l2); have K := K2; clear K2))
        obtain ⟨hwm, cc, pl, ql, rl, hO⟩ := memA_open (show sat E w1 (memA gm m' :: pt gd (.cells #[.int .i64 e.who, .int .i64 e.op, .int .i64 e.cell, .int .u64 e.old, .int .u64 e.new, .bool e.ok] 55 (0, 0)) :: rowA (.slice (some ⟨g1, 0, none⟩) l.length cap) 55 6 l.length (evCells l) :: L) from K.out)
        obtain ⟨hq, _⟩ := Go.SepYtdjkblnocooldaaGreat.row_len (hO.pick 2 rfl)
        obtain ⟨gl, hgl, _⟩ := Go.SepYtdjkblnocooldaaGreat.row_some (hO.pick 2 rfl) HS.out.2.2.2
        subst hgl hq
        have HK := Lib.hid hwm
        have K1 : sat E w1 (pt gm (.cells [.slice (some ⟨cc, 0, none⟩) m'.cells.length m'.cells.length, .slice (some ⟨gl, 0, none⟩) m'.log.length rl].toArray 120 (0, 0)) :: pt gd (.cells #[.int .i64 e.who, .int .i64 e.op, .int .i64 e.cell, .int .u64 e.old, .int .u64 e.new, .bool e.ok] 55 (0, 0)) :: rowA (.slice (some ⟨gl, 0, none⟩) m'.log.length rl) 55 6 m'.log.length (evCells m'.log) :: pt cc (.cells (u64s m'.cells).toArray 32 (0, 0)) :: rowA (.slice (some ⟨g1, 0, none⟩) l.length cap) 55 6 l.length (evCells l) :: L) := ((hO.pick 2 rfl).pick 3 rfl).pick 2 rfl
        clear K hO hwm
        have K := Lib.hid K1
        clear K1
        have hz : ∀ i u, (Ev.cells e)[i]? = some u → ∀ w', sat E w' (pt gm (.cells [.slice (some ⟨cc, 0, none⟩) m'.cells.length m'.cells.length, .slice (some ⟨gl, 0, none⟩) m'.log.length rl].toArray 120 (0, 0)) :: pt gd (.cells #[.int .i64 e.who, .int .i64 e.op, .int .i64 e.cell, .int .u64 e.old, .int .u64 e.new, .bool e.ok] 55 (0, 0)) :: rowA (.slice (some ⟨gl, 0, none⟩) m'.log.length rl) 55 6 m'.log.length (evCells m'.log) :: pt cc (.cells (u64s m'.cells).toArray 32 (0, 0)) :: rowA (.slice (some ⟨g1, 0, none⟩) l.length cap) 55 6 l.length (evCells l) :: L) → w'.cell? ⟨gl, (m'.log.length - 1) * 6 + i, none⟩ = some u := by
          intro i u hi w' hw'
          have hp := HS.out.2.2.2
          have hle := HS.out.2.2.1
          obtain ⟨b, off, e1, e2, e3⟩ := oldS_evB (hw'.pick 2 rfl) (m'.log.length - 1) (by omega)
          simp only [Option.some.injEq, Addr.mk.injEq] at e1
          obtain ⟨rfl, rfl, _⟩ := e1
          have := e3 i u (by rw [List.getElem?_eq_getElem (by omega)] at hle; simp only [Option.some.injEq] at hle; rw [hle]; exact hi)
          simpa using this
        have HZ := Lib.hid hz
        clear hz
        refine wp_region_noPanic ?_
        refine wp_region_held_drew (S := (fun w' => (∀ q, w'.cell? ⟨gm, q, none⟩ = ([.slice (some ⟨cc, 0, none⟩) m'.cells.length m'.cells.length, .slice (some ⟨gl, 0, none⟩) m'.log.length rl] : List Value)[q]?) ∧ (∀ q, w'.cell? ⟨gd, q, none⟩ = ([.int .i64 e.who, .int .i64 e.op, .int .i64 e.cell, .int .u64 e.old, .int .u64 e.new, .bool e.ok] : List Value)[q]?) ∧ (w'.cell? ⟨gl, (m'.log.length - 1) * 6, none⟩ = some (.int .i64 e.who) ∧ w'.cell? ⟨gl, (m'.log.length - 1) * 6 + 1, none⟩ = some (.int .i64 e.op) ∧ w'.cell? ⟨gl, (m'.log.length - 1) * 6 + 2, none⟩ = some (.int .i64 e.cell) ∧ w'.cell? ⟨gl, (m'.log.length - 1) * 6 + 3, none⟩ = some (.int .u64 e.old) ∧ w'.cell? ⟨gl, (m'.log.length - 1) * 6 + 4, none⟩ = some (.int .u64 e.new) ∧ w'.cell? ⟨gl, (m'.log.length - 1) * 6 + 5, none⟩ = some (.bool e.ok)))) (by kernel_rfl) ?_ (fun hHeld => ?_)
        · ((try dsimp only); (exact ⟨sat.rd 0 (by repeat (with_reducible first | exact K.out | apply sat.alloc_any | apply sat.drew | apply sat.drewN)) rfl, sat.rd 1 (by repeat (with_reducible first | exact K.out | apply sat.alloc_any | apply sat.drew | apply sat.drewN)) rfl, HZ.out 0 _ rfl _ (by repeat (with_reducible first | exact K.out | apply sat.alloc_any | apply sat.drew | apply sat.drewN)), HZ.out 1 _ rfl _ (by repeat (with_reducible first | exact K.out | apply sat.alloc_any | apply sat.drew | apply sat.drewN)), HZ.out 2 _ rfl _ (by repeat (with_reducible first | exact K.out | apply sat.alloc_any | apply sat.drew | apply sat.drewN)), HZ.out 3 _ rfl _ (by repeat (with_reducible first | exact K.out | apply sat.alloc_any | apply sat.drew | apply sat.drewN)), HZ.out 4 _ rfl _ (by repeat (with_reducible first | exact K.out | apply sat.alloc_any | apply sat.drew | apply sat.drewN)), HZ.out 5 _ rfl _ (by repeat (with_reducible first | exact K.out | apply sat.alloc_any | apply sat.drew | apply sat.drewN))⟩))
        refine tk 0 (some 66) ?_
        (try simp only [Act.put, p0, p1, p2])
        refine tk 1 (some 67) ?_
        (try simp only [Act.put, p0, p1, p2])
        refine tk 2 (some 68) ?_
        (try simp only [Act.put, p0, p1, p2])
        refine tk 3 (some 69) ?_
        (try simp only [Act.put, p0, p1, p2])
        refine tk 4 (some 70) ?_
        (try simp only [Act.put, p0, p1, p2])
        refine tk 5 (some 71) ?_
        (try simp only [Act.put, p0, p1, p2])
        refine tk 6 (some 72) ?_
        (try simp only [Act.put, p0, p1, p2])
        refine tk 7 (some 73) ?_
        (try simp only [Act.put, p0, p1, p2])
        refine tk 8 (some 74) ?_
        (try simp only [Act.put, p0, p1, p2])
        refine tk 9 (some 75) ?_
        (try simp only [Act.put, p0, p1, p2])
        refine tk 10 (some 76) ?_
        (try simp only [Act.put, p0, p1, p2])
        refine tk 11 (some 77) ?_
        (try simp only [Act.put, p0, p1, p2])
        refine tk 12 (some 78) ?_
        (try simp only [Act.put, p0, p1, p2])
        refine tk 13 (some 79) ?_
        (try simp only [Act.put, p0, p1, p2])
        refine wpAnyH_done (by kernel_rfl) (NoPanic.normal ?_) _
        all_goals
          go_wp2_with fail
          go_roundg gk'
          case measure => omega
          case rel => exact ⟨j + 1, m', by have := HJ.out; omega, by first | (simp; done) | (simp; exact w64 (by omega) (by omega)), HS.out.1, HS.out.2.1, by first | exact ((memA_shut HK.out (((K.out.pick 2 rfl).pick 3 rfl).pick 2 rfl)).pick 1 rfl).drop | exact ((memA_shut HK.out (((K.out.drew.pick 2 rfl).pick 3 rfl).pick 2 rfl)).pick 1 rfl).drop⟩
      · have f3 : (e.op == 3) = false := by simpa using q3
        rw [n0 q3] at TC
        by_cases q2 : e.op = 2
        · have f2 : (e.op == 2) = true := by simpa using q2
          cases qo : e.ok with
          | false =>
            rw [o2 q2 qo] at TC
            rw [qo] at y5
            have QO := Lib.hid qo
            clear q3 q2 n3 n0 o2 o0 hcase
            go_wp2_with fail
            have K1 := K.out.alloc (.cells #[.int .i64 e.who, .int .i64 e.op, .int .i64 e.cell, .int .u64 e.old, .int .u64 e.new, .bool false] 55)
            obtain ⟨gd, hgd⟩ : ∃ g, g = wr.heap.size := ⟨_, rfl⟩
            rw [← hgd] at K1 ⊢
            clear K hgd y0 y1 y2 y3 y4 y5
            have K := Lib.hid K1
            clear K1
            have a0 := K.out.rd 0 rfl; have l0 := K.out.ltp 0 rfl
            go_wp2_with (first | (go_at_call 79; (with_reducible refine (TH _ _ (K.out.pick 1 rfl)).out.mono ?_); rintro e w1 ⟨rfl, rfl⟩) | (go_at_call 80; (with_reducible refine ((TC _ _ ((show sat E _ _ from by iterate 6 (try (with_reducible first | exact K.out | apply sat.alloc_any | apply sat.drew | apply sat.drewN))).pick 1 rfl)).out).mono ?_); rintro e w1 ⟨rfl, K1⟩; have K2 := Lib.hid K1; clear K1 K; (try clear a0); (try clear l0); (try clear a1); (try clear l1); (try clear a2); (try clear l2); have K := K2; clear K2))
            obtain ⟨hwm, cc, pl, ql, rl, hO⟩ := memA_open (show sat E w1 (memA gm m' :: pt gd (.cells #[.int .i64 e.who, .int .i64 e.op, .int .i64 e.cell, .int .u64 e.old, .int .u64 e.new, .bool false] 55 (0, 0)) :: rowA (.slice (some ⟨g1, 0, none⟩) l.length cap) 55 6 l.length (evCells l) :: L) from K.out)
            obtain ⟨hq, _⟩ := Go.SepYtdjkblnocooldaaGreat.row_len (hO.pick 2 rfl)
            obtain ⟨gl, hgl, _⟩ := Go.SepYtdjkblnocooldaaGreat.row_some (hO.pick 2 rfl) HS.out.2.2.2
            subst hgl hq
            have HK := Lib.hid hwm
            have K1 : sat E w1 (pt gm (.cells [.slice (some ⟨cc, 0, none⟩) m'.cells.length m'.cells.length, .slice (some ⟨gl, 0, none⟩) m'.log.length rl].toArray 120 (0, 0)) :: pt gd (.cells #[.int .i64 e.who, .int .i64 e.op, .int .i64 e.cell, .int .u64 e.old, .int .u64 e.new, .bool false] 55 (0, 0)) :: rowA (.slice (some ⟨gl, 0, none⟩) m'.log.length rl) 55 6 m'.log.length (evCells m'.log) :: pt cc (.cells (u64s m'.cells).toArray 32 (0, 0)) :: rowA (.slice (some ⟨g1, 0, none⟩) l.length cap) 55 6 l.length (evCells l) :: L) := ((hO.pick 2 rfl).pick 3 rfl).pick 2 rfl
            clear K hO hwm
            have K := Lib.hid K1
            clear K1
            have hz : ∀ i u, (Ev.cells e)[i]? = some u → ∀ w', sat E w' (pt gm (.cells [.slice (some ⟨cc, 0, none⟩) m'.cells.length m'.cells.length, .slice (some ⟨gl, 0, none⟩) m'.log.length rl].toArray 120 (0, 0)) :: pt gd (.cells #[.int .i64 e.who, .int .i64 e.op, .int .i64 e.cell, .int .u64 e.old, .int .u64 e.new, .bool false] 55 (0, 0)) :: rowA (.slice (some ⟨gl, 0, none⟩) m'.log.length rl) 55 6 m'.log.length (evCells m'.log) :: pt cc (.cells (u64s m'.cells).toArray 32 (0, 0)) :: rowA (.slice (some ⟨g1, 0, none⟩) l.length cap) 55 6 l.length (evCells l) :: L) → w'.cell? ⟨gl, (m'.log.length - 1) * 6 + i, none⟩ = some u := by
              intro i u hi w' hw'
              have hp := HS.out.2.2.2
              have hle := HS.out.2.2.1
              obtain ⟨b, off, e1, e2, e3⟩ := oldS_evB (hw'.pick 2 rfl) (m'.log.length - 1) (by omega)
              simp only [Option.some.injEq, Addr.mk.injEq] at e1
              obtain ⟨rfl, rfl, _⟩ := e1
              have := e3 i u (by rw [List.getElem?_eq_getElem (by omega)] at hle; simp only [Option.some.injEq] at hle; rw [hle]; exact hi)
              simpa using this
            have HZ := Lib.hid hz
            clear hz
            refine wp_region_noPanic ?_
            refine wp_region_held_drew (S := (fun w' => (∀ q, w'.cell? ⟨gm, q, none⟩ = ([.slice (some ⟨cc, 0, none⟩) m'.cells.length m'.cells.length, .slice (some ⟨gl, 0, none⟩) m'.log.length rl] : List Value)[q]?) ∧ (∀ q, w'.cell? ⟨gd, q, none⟩ = ([.int .i64 e.who, .int .i64 e.op, .int .i64 e.cell, .int .u64 e.old, .int .u64 e.new, .bool false] : List Value)[q]?) ∧ (w'.cell? ⟨gl, (m'.log.length - 1) * 6, none⟩ = some (.int .i64 e.who) ∧ w'.cell? ⟨gl, (m'.log.length - 1) * 6 + 1, none⟩ = some (.int .i64 e.op) ∧ w'.cell? ⟨gl, (m'.log.length - 1) * 6 + 2, none⟩ = some (.int .i64 e.cell) ∧ w'.cell? ⟨gl, (m'.log.length - 1) * 6 + 3, none⟩ = some (.int .u64 e.old) ∧ w'.cell? ⟨gl, (m'.log.length - 1) * 6 + 4, none⟩ = some (.int .u64 e.new) ∧ w'.cell? ⟨gl, (m'.log.length - 1) * 6 + 5, none⟩ = some (.bool e.ok)))) (by kernel_rfl) ?_ (fun hHeld => ?_)
            · ((try dsimp only); (exact ⟨sat.rd 0 (by repeat (with_reducible first | exact K.out | apply sat.alloc_any | apply sat.drew | apply sat.drewN)) rfl, sat.rd 1 (by repeat (with_reducible first | exact K.out | apply sat.alloc_any | apply sat.drew | apply sat.drewN)) rfl, HZ.out 0 _ rfl _ (by repeat (with_reducible first | exact K.out | apply sat.alloc_any | apply sat.drew | apply sat.drewN)), HZ.out 1 _ rfl _ (by repeat (with_reducible first | exact K.out | apply sat.alloc_any | apply sat.drew | apply sat.drewN)), HZ.out 2 _ rfl _ (by repeat (with_reducible first | exact K.out | apply sat.alloc_any | apply sat.drew | apply sat.drewN)), HZ.out 3 _ rfl _ (by repeat (with_reducible first | exact K.out | apply sat.alloc_any | apply sat.drew | apply sat.drewN)), HZ.out 4 _ rfl _ (by repeat (with_reducible first | exact K.out | apply sat.alloc_any | apply sat.drew | apply sat.drewN)), HZ.out 5 _ rfl _ (by repeat (with_reducible first | exact K.out | apply sat.alloc_any | apply sat.drew | apply sat.drewN))⟩))
            refine tk 0 (some 66) ?_
            (try simp only [Act.put, p0, p1, p2])
            refine tk 1 (some 67) ?_
            (try simp only [Act.put, p0, p1, p2])
            refine tk 2 (some 68) ?_
            (try simp only [Act.put, p0, p1, p2])
            refine tk 3 (some 69) ?_
            (try simp only [Act.put, p0, p1, p2])
            refine tk 4 (some 70) ?_
            (try simp only [Act.put, p0, p1, p2])
            refine tk 5 (some 71) ?_
            (try simp only [Act.put, p0, p1, p2])
            refine tk 6 (some 72) ?_
            (try simp only [Act.put, p0, p1, p2])
            refine tk 7 (some 73) ?_
            (try simp only [Act.put, p0, p1, p2])
            refine tk 8 (some 74) ?_
            (try simp only [Act.put, p0, p1, p2])
            refine tk 9 (some 75) ?_
            (try simp only [Act.put, p0, p1, p2])
            refine tk 10 (some 76) ?_
            (try simp only [Act.put, p0, p1, p2])
            refine tk 11 (some 77) ?_
            (try simp only [Act.put, p0, p1, p2])
            refine tk 12 (some 78) ?_
            (try simp only [Act.put, p0, p1, p2])
            refine tk 13 (some 79) ?_
            (try simp only [Act.put, p0, p1, p2])
            refine wpAnyH_done (by kernel_rfl) (NoPanic.normal ?_) _
            all_goals
              go_wp2_with fail
              go_roundg gk'
              case measure => omega
              case rel => exact ⟨j + 1, m', by have := HJ.out; omega, by first | (simp; done) | (simp; exact w64 (by omega) (by omega)), HS.out.1, HS.out.2.1, by first | exact ((memA_shut HK.out (((K.out.pick 2 rfl).pick 3 rfl).pick 2 rfl)).pick 1 rfl).drop | exact ((memA_shut HK.out (((K.out.drew.pick 2 rfl).pick 3 rfl).pick 2 rfl)).pick 1 rfl).drop⟩
          | true =>
            rw [o0 (by rintro ⟨_, q⟩; rw [qo] at q; cases q)] at TC
            rw [qo] at y5
            have QO := Lib.hid qo
            clear q3 q2 n3 n0 o2 o0 hcase
            go_wp2_with fail
            have K1 := K.out.alloc (.cells #[.int .i64 e.who, .int .i64 e.op, .int .i64 e.cell, .int .u64 e.old, .int .u64 e.new, .bool true] 55)
            obtain ⟨gd, hgd⟩ : ∃ g, g = wr.heap.size := ⟨_, rfl⟩
            rw [← hgd] at K1 ⊢
            clear K hgd y0 y1 y2 y3 y4 y5
            have K := Lib.hid K1
            clear K1
            have a0 := K.out.rd 0 rfl; have l0 := K.out.ltp 0 rfl
            go_wp2_with (first | (go_at_call 79; (with_reducible refine (TH _ _ (K.out.pick 1 rfl)).out.mono ?_); rintro e w1 ⟨rfl, rfl⟩) | (go_at_call 80; (with_reducible refine ((TC _ _ ((show sat E _ _ from by iterate 6 (try (with_reducible first | exact K.out | apply sat.alloc_any | apply sat.drew | apply sat.drewN))).pick 1 rfl)).out).mono ?_); rintro e w1 ⟨rfl, K1⟩; have K2 := Lib.hid K1; clear K1 K; (try clear a0); (try clear l0); (try clear a1); (try clear l1); (try clear a2); (try clear l2); have K := K2; clear K2))
            obtain ⟨hwm, cc, pl, ql, rl, hO⟩ := memA_open (show sat E w1 (memA gm m' :: pt gd (.cells #[.int .i64 e.who, .int .i64 e.op, .int .i64 e.cell, .int .u64 e.old, .int .u64 e.new, .bool true] 55 (0, 0)) :: rowA (.slice (some ⟨g1, 0, none⟩) l.length cap) 55 6 l.length (evCells l) :: L) from K.out)
            obtain ⟨hq, _⟩ := Go.SepYtdjkblnocooldaaGreat.row_len (hO.pick 2 rfl)
            obtain ⟨gl, hgl, _⟩ := Go.SepYtdjkblnocooldaaGreat.row_some (hO.pick 2 rfl) HS.out.2.2.2
            subst hgl hq
            have HK := Lib.hid hwm
            have K1 : sat E w1 (pt gm (.cells [.slice (some ⟨cc, 0, none⟩) m'.cells.length m'.cells.length, .slice (some ⟨gl, 0, none⟩) m'.log.length rl].toArray 120 (0, 0)) :: pt gd (.cells #[.int .i64 e.who, .int .i64 e.op, .int .i64 e.cell, .int .u64 e.old, .int .u64 e.new, .bool true] 55 (0, 0)) :: rowA (.slice (some ⟨gl, 0, none⟩) m'.log.length rl) 55 6 m'.log.length (evCells m'.log) :: pt cc (.cells (u64s m'.cells).toArray 32 (0, 0)) :: rowA (.slice (some ⟨g1, 0, none⟩) l.length cap) 55 6 l.length (evCells l) :: L) := ((hO.pick 2 rfl).pick 3 rfl).pick 2 rfl
            clear K hO hwm
            have K := Lib.hid K1
            clear K1
            have hz : ∀ i u, (Ev.cells e)[i]? = some u → ∀ w', sat E w' (pt gm (.cells [.slice (some ⟨cc, 0, none⟩) m'.cells.length m'.cells.length, .slice (some ⟨gl, 0, none⟩) m'.log.length rl].toArray 120 (0, 0)) :: pt gd (.cells #[.int .i64 e.who, .int .i64 e.op, .int .i64 e.cell, .int .u64 e.old, .int .u64 e.new, .bool true] 55 (0, 0)) :: rowA (.slice (some ⟨gl, 0, none⟩) m'.log.length rl) 55 6 m'.log.length (evCells m'.log) :: pt cc (.cells (u64s m'.cells).toArray 32 (0, 0)) :: rowA (.slice (some ⟨g1, 0, none⟩) l.length cap) 55 6 l.length (evCells l) :: L) → w'.cell? ⟨gl, (m'.log.length - 1) * 6 + i, none⟩ = some u := by
              intro i u hi w' hw'
              have hp := HS.out.2.2.2
              have hle := HS.out.2.2.1
              obtain ⟨b, off, e1, e2, e3⟩ := oldS_evB (hw'.pick 2 rfl) (m'.log.length - 1) (by omega)
              simp only [Option.some.injEq, Addr.mk.injEq] at e1
              obtain ⟨rfl, rfl, _⟩ := e1
              have := e3 i u (by rw [List.getElem?_eq_getElem (by omega)] at hle; simp only [Option.some.injEq] at hle; rw [hle]; exact hi)
              simpa using this
            have HZ := Lib.hid hz
            clear hz
            refine wp_region_noPanic ?_
            refine wp_region_held_drew (S := (fun w' => (∀ q, w'.cell? ⟨gm, q, none⟩ = ([.slice (some ⟨cc, 0, none⟩) m'.cells.length m'.cells.length, .slice (some ⟨gl, 0, none⟩) m'.log.length rl] : List Value)[q]?) ∧ (∀ q, w'.cell? ⟨gd, q, none⟩ = ([.int .i64 e.who, .int .i64 e.op, .int .i64 e.cell, .int .u64 e.old, .int .u64 e.new, .bool true] : List Value)[q]?) ∧ (w'.cell? ⟨gl, (m'.log.length - 1) * 6, none⟩ = some (.int .i64 e.who) ∧ w'.cell? ⟨gl, (m'.log.length - 1) * 6 + 1, none⟩ = some (.int .i64 e.op) ∧ w'.cell? ⟨gl, (m'.log.length - 1) * 6 + 2, none⟩ = some (.int .i64 e.cell) ∧ w'.cell? ⟨gl, (m'.log.length - 1) * 6 + 3, none⟩ = some (.int .u64 e.old) ∧ w'.cell? ⟨gl, (m'.log.length - 1) * 6 + 4, none⟩ = some (.int .u64 e.new) ∧ w'.cell? ⟨gl, (m'.log.length - 1) * 6 + 5, none⟩ = some (.bool e.ok)))) (by kernel_rfl) ?_ (fun hHeld => ?_)
            · ((try dsimp only); (exact ⟨sat.rd 0 (by repeat (with_reducible first | exact K.out | apply sat.alloc_any | apply sat.drew | apply sat.drewN)) rfl, sat.rd 1 (by repeat (with_reducible first | exact K.out | apply sat.alloc_any | apply sat.drew | apply sat.drewN)) rfl, HZ.out 0 _ rfl _ (by repeat (with_reducible first | exact K.out | apply sat.alloc_any | apply sat.drew | apply sat.drewN)), HZ.out 1 _ rfl _ (by repeat (with_reducible first | exact K.out | apply sat.alloc_any | apply sat.drew | apply sat.drewN)), HZ.out 2 _ rfl _ (by repeat (with_reducible first | exact K.out | apply sat.alloc_any | apply sat.drew | apply sat.drewN)), HZ.out 3 _ rfl _ (by repeat (with_reducible first | exact K.out | apply sat.alloc_any | apply sat.drew | apply sat.drewN)), HZ.out 4 _ rfl _ (by repeat (with_reducible first | exact K.out | apply sat.alloc_any | apply sat.drew | apply sat.drewN)), HZ.out 5 _ rfl _ (by repeat (with_reducible first | exact K.out | apply sat.alloc_any | apply sat.drew | apply sat.drewN))⟩))
            refine tk 0 (some 66) ?_
            (try simp only [Act.put, p0, p1, p2])
            refine tk 1 (some 67) ?_
            (try simp only [Act.put, p0, p1, p2])
            refine tk 2 (some 68) ?_
            (try simp only [Act.put, p0, p1, p2])
            refine tk 3 (some 69) ?_
            (try simp only [Act.put, p0, p1, p2])
            refine tk 4 (some 70) ?_
            (try simp only [Act.put, p0, p1, p2])
            refine tk 5 (some 71) ?_
            (try simp only [Act.put, p0, p1, p2])
            refine tk 6 (some 72) ?_
            (try simp only [Act.put, p0, p1, p2])
            refine tk 7 (some 73) ?_
            (try simp only [Act.put, p0, p1, p2])
            refine tk 8 (some 74) ?_
            (try simp only [Act.put, p0, p1, p2])
            refine tk 9 (some 75) ?_
            (try simp only [Act.put, p0, p1, p2])
            refine tk 10 (some 76) ?_
            (try simp only [Act.put, p0, p1, p2])
            refine tk 11 (some 77) ?_
            (try simp only [Act.put, p0, p1, p2])
            refine tk 12 (some 78) ?_
            (try simp only [Act.put, p0, p1, p2])
            refine tk 13 (some 79) ?_
            (try simp only [Act.put, p0, p1, p2])
            refine wpAnyH_done (by kernel_rfl) (NoPanic.normal ?_) _
            all_goals
              go_wp2_with fail
              go_roundg gk'
              case measure => omega
              case rel => exact ⟨j + 1, m', by have := HJ.out; omega, by first | (simp; done) | (simp; exact w64 (by omega) (by omega)), HS.out.1, HS.out.2.1, by first | exact ((memA_shut HK.out (((K.out.pick 2 rfl).pick 3 rfl).pick 2 rfl)).pick 1 rfl).drop | exact ((memA_shut HK.out (((K.out.drew.pick 2 rfl).pick 3 rfl).pick 2 rfl)).pick 1 rfl).drop⟩
        · have f2 : (e.op == 2) = false := by simpa using q2
          rw [o0 (by rintro ⟨q, _⟩; exact q2 q)] at TC
          clear q3 q2 n3 n0 o2 o0 hcase
          go_wp2_with fail
          have K1 := K.out.alloc (.cells #[.int .i64 e.who, .int .i64 e.op, .int .i64 e.cell, .int .u64 e.old, .int .u64 e.new, .bool e.ok] 55)
          obtain ⟨gd, hgd⟩ : ∃ g, g = wr.heap.size := ⟨_, rfl⟩
          rw [← hgd] at K1 ⊢
          clear K hgd y0 y1 y2 y3 y4 y5
          have K := Lib.hid K1
          clear K1
          have a0 := K.out.rd 0 rfl; have l0 := K.out.ltp 0 rfl
          go_wp2_with (first | (go_at_call 79; (with_reducible refine (TH _ _ (K.out.pick 1 rfl)).out.mono ?_); rintro e w1 ⟨rfl, rfl⟩) | (go_at_call 80; (with_reducible refine ((TC _ _ ((show sat E _ _ from by iterate 6 (try (with_reducible first | exact K.out | apply sat.alloc_any | apply sat.drew | apply sat.drewN))).pick 1 rfl)).out).mono ?_); rintro e w1 ⟨rfl, K1⟩; have K2 := Lib.hid K1; clear K1 K; (try clear a0); (try clear l0); (try clear a1); (try clear l1); (try clear a2); (try clear l2); have K := K2; clear K2))
          obtain ⟨hwm, cc, pl, ql, rl, hO⟩ := memA_open (show sat E w1 (memA gm m' :: pt gd (.cells #[.int .i64 e.who, .int .i64 e.op, .int .i64 e.cell, .int .u64 e.old, .int .u64 e.new, .bool e.ok] 55 (0, 0)) :: rowA (.slice (some ⟨g1, 0, none⟩) l.length cap) 55 6 l.length (evCells l) :: L) from K.out)
          obtain ⟨hq, _⟩ := Go.SepYtdjkblnocooldaaGreat.row_len (hO.pick 2 rfl)
          obtain ⟨gl, hgl, _⟩ := Go.SepYtdjkblnocooldaaGreat.row_some (hO.pick 2 rfl) HS.out.2.2.2
          subst hgl hq
          have HK := Lib.hid hwm
          have K1 : sat E w1 (pt gm (.cells [.slice (some ⟨cc, 0, none⟩) m'.cells.length m'.cells.length, .slice (some ⟨gl, 0, none⟩) m'.log.length rl].toArray 120 (0, 0)) :: pt gd (.cells #[.int .i64 e.who, .int .i64 e.op, .int .i64 e.cell, .int .u64 e.old, .int .u64 e.new, .bool e.ok] 55 (0, 0)) :: rowA (.slice (some ⟨gl, 0, none⟩) m'.log.length rl) 55 6 m'.log.length (evCells m'.log) :: pt cc (.cells (u64s m'.cells).toArray 32 (0, 0)) :: rowA (.slice (some ⟨g1, 0, none⟩) l.length cap) 55 6 l.length (evCells l) :: L) := ((hO.pick 2 rfl).pick 3 rfl).pick 2 rfl
          clear K hO hwm
          have K := Lib.hid K1
          clear K1
          have hz : ∀ i u, (Ev.cells e)[i]? = some u → ∀ w', sat E w' (pt gm (.cells [.slice (some ⟨cc, 0, none⟩) m'.cells.length m'.cells.length, .slice (some ⟨gl, 0, none⟩) m'.log.length rl].toArray 120 (0, 0)) :: pt gd (.cells #[.int .i64 e.who, .int .i64 e.op, .int .i64 e.cell, .int .u64 e.old, .int .u64 e.new, .bool e.ok] 55 (0, 0)) :: rowA (.slice (some ⟨gl, 0, none⟩) m'.log.length rl) 55 6 m'.log.length (evCells m'.log) :: pt cc (.cells (u64s m'.cells).toArray 32 (0, 0)) :: rowA (.slice (some ⟨g1, 0, none⟩) l.length cap) 55 6 l.length (evCells l) :: L) → w'.cell? ⟨gl, (m'.log.length - 1) * 6 + i, none⟩ = some u := by
            intro i u hi w' hw'
            have hp := HS.out.2.2.2
            have hle := HS.out.2.2.1
            obtain ⟨b, off, e1, e2, e3⟩ := oldS_evB (hw'.pick 2 rfl) (m'.log.length - 1) (by omega)
            simp only [Option.some.injEq, Addr.mk.injEq] at e1
            obtain ⟨rfl, rfl, _⟩ := e1
            have := e3 i u (by rw [List.getElem?_eq_getElem (by omega)] at hle; simp only [Option.some.injEq] at hle; rw [hle]; exact hi)
            simpa using this
          have HZ := Lib.hid hz
          clear hz
          refine wp_region_noPanic ?_
          refine wp_region_held_drew (S := (fun w' => (∀ q, w'.cell? ⟨gm, q, none⟩ = ([.slice (some ⟨cc, 0, none⟩) m'.cells.length m'.cells.length, .slice (some ⟨gl, 0, none⟩) m'.log.length rl] : List Value)[q]?) ∧ (∀ q, w'.cell? ⟨gd, q, none⟩ = ([.int .i64 e.who, .int .i64 e.op, .int .i64 e.cell, .int .u64 e.old, .int .u64 e.new, .bool e.ok] : List Value)[q]?) ∧ (w'.cell? ⟨gl, (m'.log.length - 1) * 6, none⟩ = some (.int .i64 e.who) ∧ w'.cell? ⟨gl, (m'.log.length - 1) * 6 + 1, none⟩ = some (.int .i64 e.op) ∧ w'.cell? ⟨gl, (m'.log.length - 1) * 6 + 2, none⟩ = some (.int .i64 e.cell) ∧ w'.cell? ⟨gl, (m'.log.length - 1) * 6 + 3, none⟩ = some (.int .u64 e.old) ∧ w'.cell? ⟨gl, (m'.log.length - 1) * 6 + 4, none⟩ = some (.int .u64 e.new) ∧ w'.cell? ⟨gl, (m'.log.length - 1) * 6 + 5, none⟩ = some (.bool e.ok)))) (by kernel_rfl) ?_ (fun hHeld => ?_)
          · ((try dsimp only); (exact ⟨sat.rd 0 (by repeat (with_reducible first | exact K.out | apply sat.alloc_any | apply sat.drew | apply sat.drewN)) rfl, sat.rd 1 (by repeat (with_reducible first | exact K.out | apply sat.alloc_any | apply sat.drew | apply sat.drewN)) rfl, HZ.out 0 _ rfl _ (by repeat (with_reducible first | exact K.out | apply sat.alloc_any | apply sat.drew | apply sat.drewN)), HZ.out 1 _ rfl _ (by repeat (with_reducible first | exact K.out | apply sat.alloc_any | apply sat.drew | apply sat.drewN)), HZ.out 2 _ rfl _ (by repeat (with_reducible first | exact K.out | apply sat.alloc_any | apply sat.drew | apply sat.drewN)), HZ.out 3 _ rfl _ (by repeat (with_reducible first | exact K.out | apply sat.alloc_any | apply sat.drew | apply sat.drewN)), HZ.out 4 _ rfl _ (by repeat (with_reducible first | exact K.out | apply sat.alloc_any | apply sat.drew | apply sat.drewN)), HZ.out 5 _ rfl _ (by repeat (with_reducible first | exact K.out | apply sat.alloc_any | apply sat.drew | apply sat.drewN))⟩))
          refine tk 0 (some 66) ?_
          (try simp only [Act.put, p0, p1, p2])
          refine tk 1 (some 67) ?_
          (try simp only [Act.put, p0, p1, p2])
          refine tk 2 (some 68) ?_
          (try simp only [Act.put, p0, p1, p2])
          refine tk 3 (some 69) ?_
          (try simp only [Act.put, p0, p1, p2])
          refine tk 4 (some 70) ?_
          (try simp only [Act.put, p0, p1, p2])
          refine tk 5 (some 71) ?_
          (try simp only [Act.put, p0, p1, p2])
          refine tk 6 (some 72) ?_
          (try simp only [Act.put, p0, p1, p2])
          refine tk 7 (some 73) ?_
          (try simp only [Act.put, p0, p1, p2])
          refine tk 8 (some 74) ?_
          (try simp only [Act.put, p0, p1, p2])
          refine tk 9 (some 75) ?_
          (try simp only [Act.put, p0, p1, p2])
          refine tk 10 (some 76) ?_
          (try simp only [Act.put, p0, p1, p2])
          refine tk 11 (some 77) ?_
          (try simp only [Act.put, p0, p1, p2])
          refine tk 12 (some 78) ?_
          (try simp only [Act.put, p0, p1, p2])
          refine tk 13 (some 79) ?_
          (try simp only [Act.put, p0, p1, p2])
          refine wpAnyH_done (by kernel_rfl) (NoPanic.normal ?_) _
          all_goals
            go_wp2_with fail
            go_roundg gk'
            case measure => omega
            case rel => exact ⟨j + 1, m', by have := HJ.out; omega, by first | (simp; done) | (simp; exact w64 (by omega) (by omega)), HS.out.1, HS.out.2.1, by first | exact ((memA_shut HK.out (((K.out.pick 2 rfl).pick 3 rfl).pick 2 rfl)).pick 1 rfl).drop | exact ((memA_shut HK.out (((K.out.drew.pick 2 rfl).pick 3 rfl).pick 2 rfl)).pick 1 rfl).drop⟩
    · have d0 : decide (j < l.length) = false := by simpa using hlt
      have hjl : j = l.length := by omega
      subst hjl
      rw [List.take_length, HB.out] at hbs
      obtain rfl : m = mm := by simpa using hbs
      clear hj hbs
      go_wp2_with fail
      exact bodyPost_ret (v := .tuple #[.pointer (some ⟨gm, 0, none⟩), .bool true]) (by simp [results, Tryz.results41, go_sem]) rfl ⟨gm, rfl, K.out⟩
end
end Go.Proofs.YtdjkblnocooldaaGreat
