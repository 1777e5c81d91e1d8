/- The events of an argument; what a cell is behind events, and the last word that a thread loaded of it. Conditions: the events lie in memory as told. -/
import Derived.Test.YtiladkalijonbaaAuditW
import Derived.Test.YtiladkalijonbaaFlat
namespace Go.Proofs.Ytiladkalijonbaa
open Go.RowKit Go.SepYtiladkalijonbaa Go.Maps
set_option linter.unusedSimpArgs false
set_option linter.unusedVariables false
set_option maxRecDepth 100000
set_option maxHeartbeats 4000000
/-- The events of a slice, in memory that was there. -/
def OldE (w : World) (p : Option Addr) (l : List Ev) : Prop := ∀ j, (hj : j < l.length) → ∃ b off, p = some ⟨b, off, none⟩ ∧ b < w.heap.size ∧ ∀ i u, (Ev.v l[j])[i]? = some u → w.cell? ⟨b, off + j * 6 + i, none⟩ = some u
theorem OldE.grown {w w' : World} {p : Option Addr} {l : List Ev} (h : OldE w p l) (b : Below w.heap.size w w') : OldE w' p l := fun j hj => by
  obtain ⟨c, off, h1, h2, h3⟩ := h j hj
  exact ⟨c, off, h1, Nat.lt_of_lt_of_le h2 b.size, fun i u hi => (b.cell (p := ⟨c, off + j * 6 + i, none⟩) h2).trans (h3 i u hi)⟩
theorem OldE.sat {E w : World} {L : List SA} {p : Option Addr} {l : List Ev} (h : OldE E p l) (s : Go.SepYtiladkalijonbaa.sat E w L) : OldE w p l := h.grown s.below
theorem OldE.take {w : World} {p : Option Addr} {l : List Ev} (h : OldE w p l) (n : Nat) : OldE w p (l.take n) := fun j hj => by
  have hj' : j < l.length := by simp at hj; omega
  obtain ⟨c, off, h1, h2, h3⟩ := h j hj'
  refine ⟨c, off, h1, h2, fun i u hi => h3 i u ?_⟩
  rwa [List.getElem_take] at hi
theorem oldE_of {W : World} {a : Option Addr} {len cap : Nat} {rows : List (List Value)} (h : RowsAt W [.int .i64, .int .i64, .int .i64, .int .u64, .int .u64, .bool] a len cap rows) :
    ∃ l : List Ev, l.length = len ∧ (∀ e ∈ l, Ev.wf e) ∧ OldE W a l := by
  have e1 : IntKind.u64.min = 0 := by decide
  have e2 : IntKind.u64.max = 18446744073709551615 := by decide
  have e3 : IntKind.i64.min = -9223372036854775808 := by decide
  have e4 : IntKind.i64.max = 9223372036854775807 := by decide
  have hk : ∀ r ∈ rows, ∃ v : Ev, r = Ev.v v ∧ Ev.wf v := fun r hr => by
    obtain ⟨n0, w0, rfl, h0, k0⟩ := okAll_int (h.ok r hr)
    obtain ⟨n1, w1, rfl, _, k1⟩ := okAll_int k0
    obtain ⟨n2, w2, rfl, h2, k2⟩ := okAll_int k1
    obtain ⟨n3, w3, rfl, h3, k3⟩ := okAll_int k2
    obtain ⟨n4, w4, rfl, h4, k4⟩ := okAll_int k3
    obtain ⟨n5, w5, rfl, k5⟩ := okAll_bool k4
    obtain rfl := okAll_nil k5
    refine ⟨⟨n0, n1, n2, n3, n4, n5⟩, rfl, ?_⟩
    simp only [Lit.wf, Bool.and_eq_true, decide_eq_true_eq] at h0 h2 h3 h4
    unfold Ev.wf
    dsimp only
    omega
  have hw : ∃ l : List Ev, rows = l.map Ev.v ∧ ∀ v ∈ l, Ev.wf v := by
    have key : ∀ rs : List (List Value), (∀ r ∈ rs, ∃ v : Ev, r = Ev.v v ∧ Ev.wf v) → ∃ l : List Ev, rs = l.map Ev.v ∧ ∀ v ∈ l, Ev.wf v := by
      intro rs
      induction rs with
      | nil => exact fun _ => ⟨[], rfl, by simp⟩
      | cons r rs ih =>
        intro hr
        obtain ⟨v, rfl, hn⟩ := hr r List.mem_cons_self
        obtain ⟨ws, rfl, hws⟩ := ih (fun r h => hr r (List.mem_cons_of_mem _ h))
        refine ⟨v :: ws, rfl, fun x hx => ?_⟩
        rcases List.mem_cons.1 hx with rfl | hx
        · exact hn
        · exact hws x hx
    exact key rows hk
  obtain ⟨l, rfl, hwf⟩ := hw
  have hlen : l.length = len := by simpa using h.length
  refine ⟨l, hlen, hwf, fun j hj => ?_⟩
  cases a with
  | none => have := h.nil rfl; omega
  | some x =>
    have hc : ∀ i, (hi : i < l.length) → ∀ k u, (Ev.v l[i])[k]? = some u → W.cell? (x.add (i * 6 + k)) = some u := fun i hi k u hu =>
      h.cell x rfl i k u (Ev.v l[i]) (by rw [List.getElem?_map, List.getElem?_eq_getElem hi]; rfl) hu
    have h0 := hc 0 (by omega) 0 _ rfl
    have hs : x.spot = none := World.cell?_spot (by simpa [Addr.add] using h0)
    obtain ⟨b, o, sp⟩ := x
    simp only at hs
    subst hs
    have hj' := hc j hj
    refine ⟨b, o, rfl, ?_, fun i u hi => ?_⟩
    · have hj0 := hj' 0 _ rfl
      rw [Addr.add_lit] at hj0
      rcases Nat.lt_or_ge b W.heap.size with h | h
      · exact h
      · simp [World.cell?, Array.getElem?_eq_none h] at hj0
    · have := hj' i u hi
      rw [Addr.add_lit] at this
      rw [Nat.add_assoc]
      exact this
section
variable {E w : World} {L : List SA}
theorem last_calls (p : Option Addr) (l : List Ev) (cap : Nat) (cell : Int) (w : World) (hl : l.length ≤ 1000000) (h : OldE w p l) :
    Tells 35 #[.slice p l.length cap, .int .i64 cell] w (.int .u64 (lastM l cell)) := by
  have K := Lib.hid (sat.start w)
  have H := Lib.hid h
  clear h
  go_enter Try.func35, Try.ntmps35
  go_wp2
  go_loopg [10, 5] l.length (fun gk i x w' => ∃ n : Nat, n + gk = l.length ∧ i = .int .i64 n ∧ x = .int .u64 (lastM (l.take n) cell) ∧ Below w.heap.size w w')
  case atStart => exact ⟨0, by simp, rfl, rfl, Below.refl _ _⟩
  case round =>
    obtain ⟨n, hn, rfl, rfl, hb⟩ := hrel
    by_cases hlt : n < l.length
    · have d0 : decide (n < l.length) = true := by simpa using hlt
      obtain ⟨b, off, rfl, hb0, hx0⟩ := H.out n hlt
      have K1 : sat w wr [] := sat.nil hb
      clear K
      have K := Lib.hid K1
      clear K1
      have hx : ∀ i u, (Ev.v l[n])[i]? = some u → wr.cell? ⟨b, off + n * 6 + i, none⟩ = some u := fun i u hi => (hb.cell (p := ⟨b, off + n * 6 + i, none⟩) hb0).trans (hx0 i u hi)
      have y0 : wr.cell? ⟨b, off + n * 6, none⟩ = _ := hx 0 _ rfl
      have y1 := hx 1 _ rfl
      have y2 := hx 2 _ rfl
      have y3 := hx 3 _ rfl
      have y4 := hx 4 _ rfl
      have y5 := hx 5 _ rfl
      have E1 := Lib.hid (show lastM (l.take (n + 1)) cell = if l[n].cell = cell then l[n].new else lastM (l.take n) cell from by rw [List.take_succ_eq_append_getElem hlt, lastM_snoc])
      have HN := Lib.hid hn
      clear hx hx0 hn hb
      generalize l[n] = e at *
      obtain ⟨gk', rfl⟩ : ∃ g', gk = g' + 1 := ⟨gk - 1, by have := HN.out; omega⟩
      generalize lastM (l.take n) cell = x0 at *
      by_cases c0 : e.cell = cell
      · have c1 : (e.cell == cell) = true := by simpa using c0
        rw [if_pos c0] at E1
        clear c0
        go_wp2_with (first | ((with_reducible refine at_alloc ?_); refine st_allocf K.out (fun _ => rfl) ?_; intro ge w1 K1; have K2 := Lib.hid K1; clear K1 K; (try clear a0); (try clear l0); (try clear a1); (try clear l1); (try clear a2); (try clear l2); have K := K2; clear K2; have a0 := K.out.rd 0 rfl; have l0 := K.out.ltp 0 rfl) | ((with_reducible refine at_store ?_); refine st_store 0 K.out rfl rfl rfl rfl ?_ ?_ ?_ ?_; (· kernel_rfl); (· simp); (· simp [Value.oneCell']); intro w1 K1; simp only [List.set, putL] at K1; have K2 := Lib.hid K1; clear K1 K; (try clear a0); (try clear l0); (try clear a1); (try clear l1); (try clear a2); (try clear l2); have K := K2; clear K2; have a0 := K.out.rd 0 rfl; have l0 := K.out.ltp 0 rfl))
        go_roundg gk'
        case measure => omega
        case rel => exact ⟨n + 1, by have := HN.out; omega, by simp, by rw [E1.out], K.out.below⟩
      · have c1 : (e.cell == cell) = false := by simpa using c0
        rw [if_neg c0] at E1
        clear c0
        go_wp2_with (first | ((with_reducible refine at_alloc ?_); refine st_allocf K.out (fun _ => rfl) ?_; intro ge w1 K1; have K2 := Lib.hid K1; clear K1 K; (try clear a0); (try clear l0); (try clear a1); (try clear l1); (try clear a2); (try clear l2); have K := K2; clear K2; have a0 := K.out.rd 0 rfl; have l0 := K.out.ltp 0 rfl) | ((with_reducible refine at_store ?_); refine st_store 0 K.out rfl rfl rfl rfl ?_ ?_ ?_ ?_; (· kernel_rfl); (· simp); (· simp [Value.oneCell']); intro w1 K1; simp only [List.set, putL] at K1; have K2 := Lib.hid K1; clear K1 K; (try clear a0); (try clear l0); (try clear a1); (try clear l1); (try clear a2); (try clear l2); have K := K2; clear K2; have a0 := K.out.rd 0 rfl; have l0 := K.out.ltp 0 rfl))
        go_roundg gk'
        case measure => omega
        case rel => exact ⟨n + 1, by have := HN.out; omega, by simp, by rw [E1.out], K.out.below⟩
    · have hnl : n = l.length := by omega
      subst hnl
      have d0 : decide (l.length < l.length) = false := by simp
      rw [List.take_length]
      go_wp2
      go_ret
      exact ⟨rfl, hb⟩
theorem loadedM_append (who cell : Int) (b : List Ev) : ∀ a : List Ev, loadedM (a ++ b) who cell = match loadedM b who cell with | some x => some x | none => loadedM a who cell
  | [] => by
    rw [List.nil_append]
    cases loadedM b who cell <;> rfl
  | x :: a => by
    rw [List.cons_append, loadedM, loadedM_append who cell b a, loadedM]
    cases loadedM b who cell <;> rfl
theorem loadedM_bd (who cell : Int) : ∀ l : List Ev, (∀ e ∈ l, Ev.wf e) → ∀ x, loadedM l who cell = some x → 0 ≤ x ∧ x < 18446744073709551616
  | [], _, x, h => by cases h
  | e :: l, hw, x, h => by
    rw [loadedM] at h
    have ih := loadedM_bd who cell l (fun e he => hw e (List.mem_cons_of_mem _ he))
    cases hl : loadedM l who cell with
    | some y => rw [hl] at h ih; obtain rfl := Option.some.inj h; exact ih _ rfl
    | none =>
      rw [hl] at h
      dsimp only at h
      split at h
      · obtain rfl := Option.some.inj h; exact (hw e List.mem_cons_self).2.2.1
      · cases h
def loadV : Option Int → Value
  | none => .tuple #[.agg #[.int .i64 0, .int .i64 0, .int .i64 0, .int .i64 0, .int .i64 0], .bool false]
  | some x => .tuple #[wordV (unpack x), .bool true]
theorem loaded_calls (p : Option Addr) (l : List Ev) (cap : Nat) (who cell : Int) (w : World) (hl : l.length ≤ 1000000) (hwf : ∀ e ∈ l, Ev.wf e) (h : OldE w p l) :
    Tells 39 #[.slice p l.length cap, .int .i64 who, .int .i64 cell] w (loadV (loadedM l who cell)) := by
  have K := Lib.hid (sat.start w)
  have H := Lib.hid h
  have HW := Lib.hid hwf
  clear h hwf
  have hz0 : wrap64 ((l.length : Int) - 1) = (l.length : Int) - 1 := w64 (by omega) (by omega)
  go_enter Try.func39, Try.ntmps39
  go_wp2_with (first | ((with_reducible refine at_alloc ?_); refine st_allocf K.out (fun _ => rfl) ?_; intro gr w1 K1; have K2 := Lib.hid K1; clear K1 K; (try clear a0); (try clear l0); (try clear a1); (try clear l1); (try clear a2); (try clear l2); have K := K2; clear K2; have a0 := K.out.rd 0 rfl; have l0 := K.out.ltp 0 rfl))
  go_loopg [8] l.length (fun gk i w' => ∃ n : Nat, n = gk ∧ n ≤ l.length ∧ i = .int .i64 ((n : Int) - 1) ∧ loadedM (l.drop n) who cell = none ∧ sat w w' [pt gr (.cells #[.int .i64 0, .int .i64 0, .int .i64 0, .int .i64 0, .int .i64 0] 67 (0, 0))])
  case atStart => exact ⟨l.length, rfl, Nat.le_refl _, rfl, by simp [loadedM], K.out⟩
  case round =>
    obtain ⟨n, rfl, hn, rfl, hno, hs⟩ := hrel
    clear K a0 l0
    have K := Lib.hid hs
    clear hs
    have a0 := K.out.rd 0 rfl
    have l0 := K.out.ltp 0 rfl
    cases n with
    | zero =>
      have d0 : decide (((0 : Nat) : Int) - 1 ≥ 0) = false := by simp
      have E1 := Lib.hid (show loadedM l who cell = none from by simpa using hno)
      clear hno
      go_wp2_with (first | ((with_reducible refine at_store ?_); refine st_store 0 K.out rfl rfl rfl rfl ?_ ?_ ?_ ?_; (· kernel_rfl); (· simp); (· simp [Value.oneCell']); intro w1 K1; simp only [List.set, putL] at K1; have K2 := Lib.hid K1; clear K1 K; (try clear a0); (try clear l0); (try clear a1); (try clear l1); (try clear a2); (try clear l2); have K := K2; clear K2; have a0 := K.out.rd 0 rfl; have l0 := K.out.ltp 0 rfl))
      rw [E1.out]
      exact bodyPost_ret (v := loadV none) (by simp [results, Try.results39, go_sem, loadV, a0]) rfl ⟨rfl, K.out.below⟩
    | succ n =>
      have hlt : n < l.length := by omega
      have d0 : decide (((n + 1 : Nat) : Int) - 1 ≥ 0) = true := by simp
      have i0 : ((n + 1 : Nat) : Int) - 1 = (n : Int) := by omega
      have i1 : wrap64 ((n : Int) - 1) = (n : Int) - 1 := w64 (by omega) (by omega)
      have d1 : decide ((n : Int) ≥ 0) = true := by simp
      obtain ⟨b, off, rfl, hb0, hx0⟩ := H.out n hlt
      have hx : ∀ i u, (Ev.v l[n])[i]? = some u → wr.cell? ⟨b, off + n * 6 + i, none⟩ = some u := fun i u hi => (K.out.below.cell (p := ⟨b, off + n * 6 + i, none⟩) hb0).trans (hx0 i u hi)
      have y0 : wr.cell? ⟨b, off + n * 6, none⟩ = _ := hx 0 _ rfl
      have y1 := hx 1 _ rfl
      have y2 := hx 2 _ rfl
      have y3 := hx 3 _ rfl
      have y4 := hx 4 _ rfl
      have y5 := hx 5 _ rfl
      have hwn := HW.out l[n] (List.getElem_mem hlt)
      have U := fun w' => Lib.hid (unpack_lay l[n].old hwn.2.2.1.1 hwn.2.2.1.2 w')
      have E1 := Lib.hid (show loadedM (l.drop n) who cell = if l[n].who = who ∧ l[n].cell = cell ∧ l[n].op = 0 then some l[n].old else none from by rw [List.drop_eq_getElem_cons hlt, loadedM, hno])
      have E2 := Lib.hid (show ∀ x, loadedM (l.drop n) who cell = some x → loadedM l who cell = some x from fun x hx => by
        have := loadedM_append who cell (l.drop n) (l.take n)
        rw [List.take_append_drop, hx] at this
        exact this)
      have HN := Lib.hid hn
      rw [i0]
      clear hx hx0 hn hno hwn i0
      generalize l[n] = e at *
      by_cases q1 : e.who = who
      · have t1 : (e.who == who) = true := by simpa using q1
        by_cases q2 : e.cell = cell
        · have t2 : (e.cell == cell) = true := by simpa using q2
          by_cases q3 : e.op = 0
          · have t3 : (e.op == 0) = true := by simpa using q3
            rw [if_pos ⟨q1, q2, q3⟩] at E1
            have E3 := Lib.hid (E2.out _ E1.out)
            clear q1 q2 q3
            go_wp2_with (first | ((with_reducible refine at_alloc ?_); refine st_allocf K.out (fun _ => rfl) ?_; intro ge w1 K1; have K2 := Lib.hid K1; clear K1 K; (try clear a0); (try clear l0); (try clear a1); (try clear l1); (try clear a2); (try clear l2); have K := K2; clear K2; have a0 := K.out.rd 0 rfl; have l0 := K.out.ltp 0 rfl; have a1 := K.out.rd 1 rfl; have l1 := K.out.ltp 1 rfl) | ((with_reducible refine at_store ?_); refine st_store 0 K.out rfl rfl rfl rfl ?_ ?_ ?_ ?_; (· kernel_rfl); (· simp); (· simp [Value.oneCell']); intro w1 K1; simp only [List.set, putL] at K1; have K2 := Lib.hid K1; clear K1 K; (try clear a0); (try clear l0); (try clear a1); (try clear l1); (try clear a2); (try clear l2); have K := K2; clear K2; have a0 := K.out.rd 0 rfl; have l0 := K.out.ltp 0 rfl; have a1 := K.out.rd 1 rfl; have l1 := K.out.ltp 1 rfl) | (go_at_call 37; (with_reducible refine ((U _).out).mono ?_); rintro e w1 ⟨rfl, hb⟩; have K1 := sat.grown (by repeat (with_reducible first | exact K.out | apply sat.alloc_any | apply sat.drew | apply sat.drewN)) hb; clear hb; have K2 := Lib.hid K1; clear K1 K; (try clear a0); (try clear l0); (try clear a1); (try clear l1); (try clear a2); (try clear l2); have K := K2; clear K2; have a0 := K.out.rd 0 rfl; have l0 := K.out.ltp 0 rfl; have a1 := K.out.rd 1 rfl; have l1 := K.out.ltp 1 rfl) | ((with_reducible refine at_store ?_); refine st_store 1 K.out rfl rfl rfl rfl ?_ ?_ ?_ ?_; (· kernel_rfl); (· simp); (· simp [Value.oneCell']); intro w1 K1; simp only [List.set, putL] at K1; have K2 := Lib.hid K1; clear K1 K; (try clear a0); (try clear l0); (try clear a1); (try clear l1); (try clear a2); (try clear l2); have K := K2; clear K2; have a0 := K.out.rd 0 rfl; have l0 := K.out.ltp 0 rfl; have a1 := K.out.rd 1 rfl; have l1 := K.out.ltp 1 rfl))
            rw [E3.out]
            exact bodyPost_ret (v := loadV (some e.old)) (by simp [results, Try.results39, go_sem, loadV, a1]) rfl ⟨rfl, K.out.below⟩
          · have t3 : (e.op == 0) = false := by simpa using q3
            rw [if_neg (fun h => q3 h.2.2)] at E1
            clear q1 q2 q3
            go_wp2_with (first | ((with_reducible refine at_alloc ?_); refine st_allocf K.out (fun _ => rfl) ?_; intro ge w1 K1; have K2 := Lib.hid K1; clear K1 K; (try clear a0); (try clear l0); (try clear a1); (try clear l1); (try clear a2); (try clear l2); have K := K2; clear K2; have a0 := K.out.rd 0 rfl; have l0 := K.out.ltp 0 rfl; have a1 := K.out.rd 1 rfl; have l1 := K.out.ltp 1 rfl) | ((with_reducible refine at_store ?_); refine st_store 0 K.out rfl rfl rfl rfl ?_ ?_ ?_ ?_; (· kernel_rfl); (· simp); (· simp [Value.oneCell']); intro w1 K1; simp only [List.set, putL] at K1; have K2 := Lib.hid K1; clear K1 K; (try clear a0); (try clear l0); (try clear a1); (try clear l1); (try clear a2); (try clear l2); have K := K2; clear K2; have a0 := K.out.rd 0 rfl; have l0 := K.out.ltp 0 rfl; have a1 := K.out.rd 1 rfl; have l1 := K.out.ltp 1 rfl))
            go_roundg n
            case measure => omega
            case rel => exact ⟨n, rfl, by have := HN.out; omega, rfl, E1.out, K.out.drop⟩
        · have t2 : (e.cell == cell) = false := by simpa using q2
          rw [if_neg (fun h => q2 h.2.1)] at E1
          clear q1 q2
          go_wp2_with (first | ((with_reducible refine at_alloc ?_); refine st_allocf K.out (fun _ => rfl) ?_; intro ge w1 K1; have K2 := Lib.hid K1; clear K1 K; (try clear a0); (try clear l0); (try clear a1); (try clear l1); (try clear a2); (try clear l2); have K := K2; clear K2; have a0 := K.out.rd 0 rfl; have l0 := K.out.ltp 0 rfl; have a1 := K.out.rd 1 rfl; have l1 := K.out.ltp 1 rfl) | ((with_reducible refine at_store ?_); refine st_store 0 K.out rfl rfl rfl rfl ?_ ?_ ?_ ?_; (· kernel_rfl); (· simp); (· simp [Value.oneCell']); intro w1 K1; simp only [List.set, putL] at K1; have K2 := Lib.hid K1; clear K1 K; (try clear a0); (try clear l0); (try clear a1); (try clear l1); (try clear a2); (try clear l2); have K := K2; clear K2; have a0 := K.out.rd 0 rfl; have l0 := K.out.ltp 0 rfl; have a1 := K.out.rd 1 rfl; have l1 := K.out.ltp 1 rfl))
          go_roundg n
          case measure => omega
          case rel => exact ⟨n, rfl, by have := HN.out; omega, rfl, E1.out, K.out.drop⟩
      · have t1 : (e.who == who) = false := by simpa using q1
        rw [if_neg (fun h => q1 h.1)] at E1
        clear q1
        go_wp2_with (first | ((with_reducible refine at_alloc ?_); refine st_allocf K.out (fun _ => rfl) ?_; intro ge w1 K1; have K2 := Lib.hid K1; clear K1 K; (try clear a0); (try clear l0); (try clear a1); (try clear l1); (try clear a2); (try clear l2); have K := K2; clear K2; have a0 := K.out.rd 0 rfl; have l0 := K.out.ltp 0 rfl; have a1 := K.out.rd 1 rfl; have l1 := K.out.ltp 1 rfl) | ((with_reducible refine at_store ?_); refine st_store 0 K.out rfl rfl rfl rfl ?_ ?_ ?_ ?_; (· kernel_rfl); (· simp); (· simp [Value.oneCell']); intro w1 K1; simp only [List.set, putL] at K1; have K2 := Lib.hid K1; clear K1 K; (try clear a0); (try clear l0); (try clear a1); (try clear l1); (try clear a2); (try clear l2); have K := K2; clear K2; have a0 := K.out.rd 0 rfl; have l0 := K.out.ltp 0 rfl; have a1 := K.out.rd 1 rfl; have l1 := K.out.ltp 1 rfl))
        go_roundg n
        case measure => omega
        case rel => exact ⟨n, rfl, by have := HN.out; omega, rfl, E1.out, K.out.drop⟩
end
end Go.Proofs.Ytiladkalijonbaa
