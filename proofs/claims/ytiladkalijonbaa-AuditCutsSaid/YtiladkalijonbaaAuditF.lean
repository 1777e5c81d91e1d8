/- The first event that may not be, as the auditor finds it (audit.First). Conditions: a Right layout; the events lie in memory as told; numbers within their kinds. -/
import Derived.Test.YtiladkalijonbaaAuditE
import Derived.Test.YtiladkalijonbaaAuditY
namespace Go.Proofs.Ytiladkalijonbaa
open Go.RowKit Go.SepYtiladkalijonbaa Go.Maps
set_option linter.unusedSimpArgs false
set_option linter.unusedVariables false
set_option maxRecDepth 100000
set_option maxHeartbeats 4000000
/-- What the auditor's maps hold behind events that all may be. -/
structure Audd (c : ConfM) (l : List Ev) (f g : Lit → Option Int) : Prop where
  cells : ∀ i, (f (.int .i64 i)).getD 0 = lastM l i
  seen : ∀ who slot, w64P who → 0 ≤ slot → slot < c.all → g (pairKey who slot) = rdM l who slot
theorem lastM_bd (l : List Ev) (h : ∀ e ∈ l, Ev.wf e) (i : Int) : 0 ≤ lastM l i ∧ lastM l i < 18446744073709551616 := by
  have key : ∀ (l : List Ev) (x : Int), (∀ e ∈ l, Ev.wf e) → 0 ≤ x ∧ x < 18446744073709551616 → 0 ≤ l.foldl (fun x e => if e.cell = i then e.new else x) x ∧ l.foldl (fun x e => if e.cell = i then e.new else x) x < 18446744073709551616 := by
    intro l
    induction l with
    | nil => exact fun x _ hx => hx
    | cons e l ih =>
      intro x h hx
      rw [List.foldl_cons]
      refine ih _ (fun y hy => h y (List.mem_cons_of_mem _ hy)) ?_
      split
      · exact (h e List.mem_cons_self).2.2.2
      · exact hx
  exact key l 0 h (by omega)
theorem mayM_congr {c : ConfM} {f f' : Int → Int} {r r' : Int → Option Int} (e : Ev) (hc : c.ok) (hf : ∀ i, f i = f' i) (hr : ∀ s, 0 ≤ s → s < c.all → r s = r' s) : mayM c f r e = mayM c f' r' e := by
  obtain rfl : f = f' := funext hf
  unfold mayM
  split
  · rfl
  · rcases kind_cases c hc e.cell with ⟨k, hk⟩ | ⟨hk, k0, k1⟩ | ⟨k, hk, k0, k1⟩ | ⟨k, hk⟩ | ⟨k, hk⟩ <;> rw [hk]
    · rfl
    · rfl
    · show valueB c f (r k) e k = valueB c f (r' k) e k
      rw [hr k k0 k1]
    · rfl
    · rfl
theorem Audd.start (c : ConfM) : Audd c [] (fun _ => none) (fun _ => none) := ⟨fun _ => rfl, fun _ _ _ _ _ => rfl⟩
theorem kind_one {c : ConfM} {cell : Int} (h : (kindM c cell).1 = 1) : 0 ≤ cell ∧ cell < c.all := by
  unfold kindM at h
  (repeat' split at h) <;> first | omega | (simp at h)
theorem kind_word {c : ConfM} (hc : c.ok) {cell : Int} (h0 : 0 ≤ cell) (h1 : cell < c.all) : (kindM c cell).1 = 1 := by
  have := hc.th1
  have := hc.all_bd
  unfold kindM ConfM.cells
  rw [if_neg (by omega), if_pos h1]
theorem Audd.step {c : ConfM} (hc : c.ok) {l : List Ev} {f g : Lit → Option Int} (h : Audd c l f g) (e : Ev) (he : Ev.wf e) (hw0 : 0 ≤ e.who) (hw1 : e.who < c.th) (hcell : 0 ≤ e.cell ∧ e.cell < c.cells) : Audd c (l ++ [e]) (updI f (.int .i64 e.cell) e.new) (seenUp c e g) := by
  refine ⟨fun i => ?_, fun who slot h0 h1 h2 => ?_⟩
  · rw [lastM_snoc]
    by_cases hi : i = e.cell
    · subst hi; rw [updI_same, if_pos rfl]; rfl
    · rw [updI_other _ _ _ (by intro hh; injection hh with _ hh; exact hi hh), if_neg (Ne.symm hi)]; exact h.cells i
  · rw [rdM_snoc]
    unfold seenUp
    by_cases hk : (kindM c e.cell).1 = 1 ∧ e.op = 0
    · rw [if_pos ⟨⟨hw0, hw1⟩, hk⟩]
      have hb := kind_one hk.1
      have hal := hc.all_bd
      by_cases hp : who = e.who ∧ slot = e.cell
      · obtain ⟨rfl, rfl⟩ := hp
        rw [updI_same, if_pos ⟨rfl, rfl, hk.2⟩]
      · rw [updI_other _ _ _ (fun hh => hp (pairKey_inj h0 (by unfold w64P; omega) he.1 (by unfold w64P; omega) hh)), if_neg (fun hh => hp ⟨hh.1.symm, hh.2.1.symm⟩)]
        exact h.seen who slot h0 h1 h2
    · rw [if_neg (fun hh => hk hh.2), if_neg (fun hh => hk ⟨by rw [hh.2.1]; exact kind_word hc h1 h2, hh.2.2⟩)]
      exact h.seen who slot h0 h1 h2
theorem okM_may {c : ConfM} {l : List Ev} {e : Ev} (h : okM c l e = true) : (0 ≤ e.who ∧ e.who < c.th) ∧ 0 ≤ e.cell ∧ e.cell < c.cells := by
  unfold okM at h
  have h2 := (Bool.and_eq_true_iff.1 h).2
  unfold mayM at h2
  by_cases hw : e.who < 0 ∨ c.th ≤ e.who
  · rw [if_pos hw] at h2; cases h2
  · rw [if_neg hw] at h2
    refine ⟨by omega, ?_⟩
    by_cases hr : e.cell < 0 ∨ c.cells ≤ e.cell
    · have : kindM c e.cell = (0, 0) := by unfold kindM; rw [if_pos hr]
      rw [this] at h2
      exact absurd (show false = true from h2) (by decide)
    · omega
section
variable {E w : World} {L : List SA}
theorem _root_.Go.SepYtiladkalijonbaa.sat.first3 {A B C D : SA} (h : sat E w [A, B, C, D]) : sat E w [A, C, B] := (((h.pick 3 rfl).drop).pick 2 rfl).pick 1 rfl
theorem cellU {ge a bc bs n : Nat} {e : Ev} {c : ConfM} {f : Lit → Option Int} {M : List SA} (h : sat E w (evA ge e :: audA a c bc bs :: cellsA bc n f :: M)) {i : Int} (h1 : w64P i) {x : Int} (hx : (f (.int .i64 i)).getD 0 = x) :
    (∀ j, w.cell? ⟨ge, j, none⟩ = e.v[j]?) ∧ (∀ j, w.cell? ⟨a, j, none⟩ = (audV c bc bs)[j]?) ∧ (Instr.lookup 73 (.map (some bc)) (.int .i64 i) false).run Try.prog w = .ok (.int .u64 x) w := by
  subst hx
  exact ⟨h.rd 0 rfl, h.rd 1 rfl, look_cells (h.pick 2 rfl) h1⟩
theorem first_calls (c : ConfM) (hc : c.ok) (p : Option Addr) (l : List Ev) (cap : Nat) (w : World) (hl : l.length ≤ 1000000) (hwf : ∀ e ∈ l, Ev.wf e) (h : OldE w p l) :
    Tells 16 #[.agg #[.int .i64 c.th, .int .i64 c.sl, .int .i64 c.src, .int .i64 c.dl], .slice p l.length cap] w (.int .i64 (firstM c [] l)) := by
  have K := Lib.hid (sat.start w)
  have H := Lib.hid h
  have HW := Lib.hid hwf
  clear h hwf
  go_enter Try.func16, Try.ntmps16
  go_wp2_with (first | ((with_reducible refine at_box ?_); refine st_boxf K.out rfl rfl (fun _ => rfl) ?_; intro gc w1 K1; have K2 := Lib.hid K1; clear K1 K; (try clear a0); (try clear l0); (try clear a1); (try clear l1); (try clear a2); (try clear l2); have K := K2; clear K2; have a0 := K.out.rd 0 rfl; have l0 := K.out.ltp 0 rfl) | ((with_reducible refine at_makeMap' ?_); (first | (have _hp := g1; refine st_makeMap 91 3 .i64 K.out ?_; intro g2 w1 K1; have K2 := Lib.hid K1; clear K1 K; (try clear a0); (try clear l0); (try clear a1); (try clear l1); (try clear a2); (try clear l2); have K := K2; clear K2; have a2 := K.out.rd 2 rfl; have l2 := K.out.ltp 2 rfl) | (refine st_makeMap 3 31 .u64 K.out ?_; intro g1 w1 K1; have K2 := Lib.hid K1; clear K1 K; (try clear a0); (try clear l0); (try clear a1); (try clear l1); (try clear a2); (try clear l2); have K := K2; clear K2; have a1 := K.out.rd 1 rfl; have l1 := K.out.ltp 1 rfl))) | ((with_reducible refine at_box ?_); refine st_boxf K.out rfl rfl (fun _ => rfl) ?_; intro ga w1 K1; have K2 := Lib.hid K1; clear K1 K; (try clear a0); (try clear l0); (try clear a1); (try clear l1); (try clear a2); (try clear l2); have K := K2; clear K2; have a0 := K.out.rd 0 rfl; have l0 := K.out.ltp 0 rfl; have a3 := K.out.rd 3 rfl; have l3 := K.out.ltp 3 rfl))
  have K1 := K.out.first3
  clear K
  have K := Lib.hid K1
  clear K1
  go_loopg [15] l.length (fun gk i w' => ∃ (n : Nat) (f g : Lit → Option Int), n + gk = l.length ∧ i = .int .i64 n ∧ firstM c [] l = firstM c (l.take n) (l.drop n) ∧ Audd c (l.take n) f g ∧ sat w w' [audA gc c g1 g2, cellsA g1 n f, seenA g2 n g])
  case atStart => exact ⟨0, _, _, by simp, rfl, by simp, Audd.start c, K.out⟩
  case round =>
    obtain ⟨n, f, g, hn, rfl, hfi, hA, hs⟩ := hrel
    clear K
    have K := Lib.hid hs
    clear hs
    have a0 := K.out.rd 0 rfl
    have l0 := K.out.ltp 0 rfl
    by_cases hlt : n < l.length
    · have d0 : decide (n < l.length) = true := by simpa using hlt
      obtain ⟨b, off, rfl, hb0, hx0⟩ := H.out n hlt
      have hx : ∀ i u, (Ev.v l[n])[i]? = some u → wr.cell? ⟨b, off + n * 6 + i, none⟩ = some u := fun i u hi => (K.out.below.cell (p := ⟨b, off + n * 6 + i, none⟩) hb0).trans (hx0 i u hi)
      have y0 : wr.cell? ⟨b, off + n * 6, none⟩ = _ := hx 0 _ rfl
      have y1 := hx 1 _ rfl
      have y2 := hx 2 _ rfl
      have y3 := hx 3 _ rfl
      have y4 := hx 4 _ rfl
      have y5 := hx 5 _ rfl
      have hwn := HW.out l[n] (List.getElem_mem hlt)
      have hlb := lastM_bd (l.take n) (fun e he => HW.out e (List.mem_of_mem_take he))
      have E1 := Lib.hid (show firstM c [] l = if okM c (l.take n) l[n] then firstM c (l.take (n + 1)) (l.drop (n + 1)) else (n : Int) from by
        rw [hfi, List.drop_eq_getElem_cons hlt, firstM, ← List.take_succ_eq_append_getElem hlt, List.length_take, Nat.min_eq_left (by omega)])
      have E2 := Lib.hid (show okM c (l.take n) l[n] = (l[n].old == lastM (l.take n) l[n].cell && mayM c (lastF f) (fun s => g (pairKey l[n].who s)) l[n]) from by
        unfold okM
        rw [mayM_congr l[n] hc (f := lastF f) (f' := lastM (l.take n)) (r := fun s => g (pairKey l[n].who s)) (r' := rdM (l.take n) l[n].who) hA.cells (fun s h0 h1 => hA.seen _ _ hwn.1 h0 h1)])
      have E3 := Lib.hid (show okM c (l.take n) l[n] = true → Audd c (l.take (n + 1)) (updI f (.int .i64 l[n].cell) l[n].new) (seenUp c l[n] g) from fun h => by
        rw [List.take_succ_eq_append_getElem hlt]
        have hm := okM_may h
        exact hA.step hc _ hwn hm.1.1 hm.1.2 hm.2)
      have HX := Lib.hid (hA.cells l[n].cell)
      have hf : ∀ i, 0 ≤ (f (.int .i64 i)).getD 0 ∧ (f (.int .i64 i)).getD 0 < 18446744073709551616 := fun i => by rw [hA.cells]; exact hlb i
      have HN := Lib.hid hn
      clear hx hx0 hn hfi hA hlb
      generalize okM c (l.take n) l[n] = okn at *
      generalize lastM (l.take n) l[n].cell = x0 at *
      generalize l[n] = e at *
      have CC := fun w' (D : SA) (h : sat w w' [audA gc c g1 g2, cellsA g1 n f, seenA g2 n g, D]) => Lib.hid (mapd_calls c hc gc g1 g2 n n f g (by omega) e hwn hf h)
      have HC := Lib.hid (show w64P e.cell from hwn.2.1)
      have HV := Lib.hid (wfU hwn.2.2.2)
      obtain ⟨gk', rfl⟩ : ∃ g', gk = g' + 1 := ⟨gk - 1, by have := HN.out; omega⟩
      clear hf hwn
      by_cases q0 : e.old = x0
      · have t0 : (e.old != x0) = false := by simp [q0]
        have t9 : (e.old == x0) = true := by simp [q0]
        rw [t9, Bool.true_and] at E2
        clear q0 t9
        generalize mayM c (lastF f) (fun s => g (pairKey e.who s)) e = mv at *
        cases mv with
        | false =>
          go_wp2_with (first | ((with_reducible refine at_alloc ?_); refine st_allocf K.out (fun _ => rfl) ?_; intro ge w1 K1; have K2 := Lib.hid K1; clear K1 K; (try clear a0); (try clear l0); (try clear a1); (try clear l1); (try clear a2); (try clear l2); have K := K2; clear K2; have a0 := K.out.rd 0 rfl; have l0 := K.out.ltp 0 rfl; have a1 := K.out.rd 1 rfl; have l1 := K.out.ltp 1 rfl) | ((with_reducible refine at_store ?_); refine st_store 0 K.out rfl rfl rfl rfl ?_ ?_ ?_ ?_; (· kernel_rfl); (· simp); (· simp [Value.oneCell']); intro w1 K1; simp only [List.set, putL] at K1; have K2 := Lib.hid K1; clear K1 K; (try clear a0); (try clear l0); (try clear a1); (try clear l1); (try clear a2); (try clear l2); have K := K2; clear K2; have a0 := K.out.rd 0 rfl; have l0 := K.out.ltp 0 rfl; have a1 := K.out.rd 1 rfl; have l1 := K.out.ltp 1 rfl))
          refine wp_region_noPanic ?_
          refine wp_region_held_drew (S := (fun w' => (∀ j, w'.cell? ⟨ge, j, none⟩ = e.v[j]?) ∧ (∀ j, w'.cell? ⟨gc, j, none⟩ = (audV c g1 g2)[j]?) ∧ (Instr.lookup 73 (.map (some g1)) (.int .i64 e.cell) false).run Try.prog w' = .ok (.int .u64 x0) w')) (by kernel_rfl) ?_ (fun hHeld => ?_)
          · ((try dsimp only); (first | (refine cellU (E := w) (n := n) (f := f) (M := [seenA g2 n g]) ?_ HC.out HX.out; first | exact K.out | exact K.out.drew) | (refine cellU (E := w) (n := n) (f := f) (M := [seenA g2 (n + 1) (seenUp c e g)]) ?_ HC.out HX.out; exact K.out)))
          refine tk 0 (some 20) ?_
          (try simp only [Act.put, p0, p1, p2])
          refine tk 1 (some 21) ?_
          (try simp only [Act.put, p0, p1, p2])
          refine tk 2 (some 22) ?_
          (try simp only [Act.put, p0, p1, p2])
          refine tk 3 (some 23) ?_
          (try simp only [Act.put, p0, p1, p2])
          refine tk 4 (some 24) ?_
          (try simp only [Act.put, p0, p1, p2])
          refine tk 5 (some 25) ?_
          (try simp only [Act.put, p0, p1, p2])
          refine tk 6 (some 26) ?_
          (try simp only [Act.put, p0, p1, p2])
          refine tk 7 (some 27) ?_
          (try simp only [Act.put, p0, p1, p2])
          refine tk 8 (some 28) ?_
          (try simp only [Act.put, p0, p1, p2])
          refine tk 9 (some 29) ?_
          (try simp only [Act.put, p0, p1, p2])
          refine tk 10 (some 30) ?_
          (try simp only [Act.put, p0, p1, p2])
          refine tk 11 (some 31) ?_
          (try simp only [Act.put, p0, p1, p2])
          refine tk 12 (some 32) ?_
          (try simp only [Act.put, p0, p1, p2])
          refine wpAnyH_ready (rs := [13]) (by kernel_rfl) (by simp) ?_
          refine AllReadyH.cons (o := _) rfl (fun kC hkC => ?_) AllReadyH.nil
          go_simp
          (first | (go_at_call 25; (with_reducible refine (CC _ _ (by first | exact K.out.rot3 | exact K.out.drew.rot3)).out.mono ?_); rintro r w1 ⟨rfl, K1⟩; replace K1 := K1.unrot3; have K2 := Lib.hid K1; clear K1 K; (try clear a0 l0); (try clear a1 l1); have K := K2; clear K2; have a0 := K.out.rd 0 rfl; have l0 := K.out.ltp 0 rfl; have a1 := K.out.rd 1 rfl; have l1 := K.out.ltp 1 rfl))
          refine shown hkC _ _ (by (try dsimp only); (first | (refine cellU (E := w) (n := n) (f := f) (M := [seenA g2 n g]) ?_ HC.out HX.out; first | exact K.out | exact K.out.drew) | (refine cellU (E := w) (n := n) (f := f) (M := [seenA g2 (n + 1) (seenUp c e g)]) ?_ HC.out HX.out; exact K.out))) ?_; clear hkC kC hHeld; intro hHeld
          (try simp only [Act.put, p0, p1, p2])
          refine tk 14 (some 34) ?_
          (try simp only [Act.put, p0, p1, p2])
          refine tk 15 (some 35) ?_
          (try simp only [Act.put, p0, p1, p2])
          refine wpAnyH_done (by kernel_rfl) (NoPanic.normal ?_) _
          go_wp2
          go_ret
          exact ⟨ret_i (by rw [E1.out, E2.out]; simp), K.out.below⟩
        | true =>
          go_wp2_with (first | ((with_reducible refine at_alloc ?_); refine st_allocf K.out (fun _ => rfl) ?_; intro ge w1 K1; have K2 := Lib.hid K1; clear K1 K; (try clear a0); (try clear l0); (try clear a1); (try clear l1); (try clear a2); (try clear l2); have K := K2; clear K2; have a0 := K.out.rd 0 rfl; have l0 := K.out.ltp 0 rfl; have a1 := K.out.rd 1 rfl; have l1 := K.out.ltp 1 rfl) | ((with_reducible refine at_store ?_); refine st_store 0 K.out rfl rfl rfl rfl ?_ ?_ ?_ ?_; (· kernel_rfl); (· simp); (· simp [Value.oneCell']); intro w1 K1; simp only [List.set, putL] at K1; have K2 := Lib.hid K1; clear K1 K; (try clear a0); (try clear l0); (try clear a1); (try clear l1); (try clear a2); (try clear l2); have K := K2; clear K2; have a0 := K.out.rd 0 rfl; have l0 := K.out.ltp 0 rfl; have a1 := K.out.rd 1 rfl; have l1 := K.out.ltp 1 rfl))
          refine wp_region_noPanic ?_
          refine wp_region_held_drew (S := (fun w' => (∀ j, w'.cell? ⟨ge, j, none⟩ = e.v[j]?) ∧ (∀ j, w'.cell? ⟨gc, j, none⟩ = (audV c g1 g2)[j]?) ∧ (Instr.lookup 73 (.map (some g1)) (.int .i64 e.cell) false).run Try.prog w' = .ok (.int .u64 x0) w')) (by kernel_rfl) ?_ (fun hHeld => ?_)
          · ((try dsimp only); (first | (refine cellU (E := w) (n := n) (f := f) (M := [seenA g2 n g]) ?_ HC.out HX.out; first | exact K.out | exact K.out.drew) | (refine cellU (E := w) (n := n) (f := f) (M := [seenA g2 (n + 1) (seenUp c e g)]) ?_ HC.out HX.out; exact K.out)))
          refine tk 0 (some 20) ?_
          (try simp only [Act.put, p0, p1, p2])
          refine tk 1 (some 21) ?_
          (try simp only [Act.put, p0, p1, p2])
          refine tk 2 (some 22) ?_
          (try simp only [Act.put, p0, p1, p2])
          refine tk 3 (some 23) ?_
          (try simp only [Act.put, p0, p1, p2])
          refine tk 4 (some 24) ?_
          (try simp only [Act.put, p0, p1, p2])
          refine tk 5 (some 25) ?_
          (try simp only [Act.put, p0, p1, p2])
          refine tk 6 (some 26) ?_
          (try simp only [Act.put, p0, p1, p2])
          refine tk 7 (some 27) ?_
          (try simp only [Act.put, p0, p1, p2])
          refine tk 8 (some 28) ?_
          (try simp only [Act.put, p0, p1, p2])
          refine tk 9 (some 29) ?_
          (try simp only [Act.put, p0, p1, p2])
          refine tk 10 (some 30) ?_
          (try simp only [Act.put, p0, p1, p2])
          refine tk 11 (some 31) ?_
          (try simp only [Act.put, p0, p1, p2])
          refine tk 12 (some 32) ?_
          (try simp only [Act.put, p0, p1, p2])
          refine wpAnyH_ready (rs := [13]) (by kernel_rfl) (by simp) ?_
          refine AllReadyH.cons (o := _) rfl (fun kC hkC => ?_) AllReadyH.nil
          go_simp
          (first | (go_at_call 25; (with_reducible refine (CC _ _ (by first | exact K.out.rot3 | exact K.out.drew.rot3)).out.mono ?_); rintro r w1 ⟨rfl, K1⟩; replace K1 := K1.unrot3; have K2 := Lib.hid K1; clear K1 K; (try clear a0 l0); (try clear a1 l1); have K := K2; clear K2; have a0 := K.out.rd 0 rfl; have l0 := K.out.ltp 0 rfl; have a1 := K.out.rd 1 rfl; have l1 := K.out.ltp 1 rfl))
          refine shown hkC _ _ (by (try dsimp only); (first | (refine cellU (E := w) (n := n) (f := f) (M := [seenA g2 n g]) ?_ HC.out HX.out; first | exact K.out | exact K.out.drew) | (refine cellU (E := w) (n := n) (f := f) (M := [seenA g2 (n + 1) (seenUp c e g)]) ?_ HC.out HX.out; exact K.out))) ?_; clear hkC kC hHeld; intro hHeld
          (try simp only [Act.put, p0, p1, p2])
          refine tk 14 (some 34) ?_
          (try simp only [Act.put, p0, p1, p2])
          refine tk 15 (some 35) ?_
          (try simp only [Act.put, p0, p1, p2])
          refine wpAnyH_done (by kernel_rfl) (NoPanic.normal ?_) _
          go_wp2_with fail
          refine wp_region_noPanic ?_
          refine wp_region_held_drew (S := (fun w' => (∀ j, w'.cell? ⟨ge, j, none⟩ = e.v[j]?) ∧ (∀ j, w'.cell? ⟨gc, j, none⟩ = (audV c g1 g2)[j]?))) (by kernel_rfl) ?_ (fun hHeld => ?_)
          · ((try dsimp only); (first | exact ⟨K.out.rd 0 rfl, K.out.rd 1 rfl⟩ | exact ⟨K.out.drew.rd 0 rfl, K.out.drew.rd 1 rfl⟩))
          refine tk 0 (some 37) ?_
          (try simp only [Act.put, p0, p1, p2])
          refine tk 1 (some 38) ?_
          (try simp only [Act.put, p0, p1, p2])
          refine tk 2 (some 39) ?_
          (try simp only [Act.put, p0, p1, p2])
          refine tk 3 (some 40) ?_
          (try simp only [Act.put, p0, p1, p2])
          refine tk 4 (some 41) ?_
          (try simp only [Act.put, p0, p1, p2])
          refine tk 5 (some 42) ?_
          (try simp only [Act.put, p0, p1, p2])
          refine tk 6 (some 43) ?_
          (try simp only [Act.put, p0, p1, p2])
          refine tk 7 (some 44) ?_
          (try simp only [Act.put, p0, p1, p2])
          refine wpAnyH_ready (rs := [8]) (by kernel_rfl) (by simp) ?_
          refine AllReadyH.cons (o := _) rfl (fun kC hkC => ?_) AllReadyH.nil
          (refine rg_put (E := w) 2 (by kernel_rfl) (d := none) rfl rfl K.out.drew rfl keyedI Try.underlying73 Try.underlying31 (by unfold maxLen; omega) rfl rfl (keyOf_int_mk Try.underlying3 (wf64 HC.out)) rfl HV.out ?_; intro w1 K1; simp only [List.set] at K1; have K2 := Lib.hid K1; clear K1 K a0 l0 a1 l1; have K := K2; clear K2; have a0 := K.out.rd 0 rfl; have a1 := K.out.rd 1 rfl)
          refine shown hkC _ _ (by (try dsimp only); (first | exact ⟨K.out.rd 0 rfl, K.out.rd 1 rfl⟩ | exact ⟨K.out.drew.rd 0 rfl, K.out.drew.rd 1 rfl⟩)) ?_; clear hkC kC hHeld; intro hHeld
          (try simp only [Act.put, p0, p1, p2])
          refine wpAnyH_done (by kernel_rfl) (NoPanic.normal ?_) _
          go_wp2_with fail
          go_roundg gk'
          case measure => omega
          case rel => exact ⟨n + 1, _, _, by have := HN.out; omega, by simp, by rw [E1.out, E2.out]; simp, E3.out E2.out, K.out.drop⟩
      · have t0 : (e.old != x0) = true := by simpa using q0
        have t9 : (e.old == x0) = false := by simpa using q0
        rw [t9, Bool.false_and] at E2
        clear q0 t9
        go_wp2_with (first | ((with_reducible refine at_alloc ?_); refine st_allocf K.out (fun _ => rfl) ?_; intro ge w1 K1; have K2 := Lib.hid K1; clear K1 K; (try clear a0); (try clear l0); (try clear a1); (try clear l1); (try clear a2); (try clear l2); have K := K2; clear K2; have a0 := K.out.rd 0 rfl; have l0 := K.out.ltp 0 rfl; have a1 := K.out.rd 1 rfl; have l1 := K.out.ltp 1 rfl) | ((with_reducible refine at_store ?_); refine st_store 0 K.out rfl rfl rfl rfl ?_ ?_ ?_ ?_; (· kernel_rfl); (· simp); (· simp [Value.oneCell']); intro w1 K1; simp only [List.set, putL] at K1; have K2 := Lib.hid K1; clear K1 K; (try clear a0); (try clear l0); (try clear a1); (try clear l1); (try clear a2); (try clear l2); have K := K2; clear K2; have a0 := K.out.rd 0 rfl; have l0 := K.out.ltp 0 rfl; have a1 := K.out.rd 1 rfl; have l1 := K.out.ltp 1 rfl))
        refine wp_region_noPanic ?_
        refine wp_region_held_drew (S := (fun w' => (∀ j, w'.cell? ⟨ge, j, none⟩ = e.v[j]?) ∧ (∀ j, w'.cell? ⟨gc, j, none⟩ = (audV c g1 g2)[j]?) ∧ (Instr.lookup 73 (.map (some g1)) (.int .i64 e.cell) false).run Try.prog w' = .ok (.int .u64 x0) w')) (by kernel_rfl) ?_ (fun hHeld => ?_)
        · ((try dsimp only); (first | (refine cellU (E := w) (n := n) (f := f) (M := [seenA g2 n g]) ?_ HC.out HX.out; first | exact K.out | exact K.out.drew) | (refine cellU (E := w) (n := n) (f := f) (M := [seenA g2 (n + 1) (seenUp c e g)]) ?_ HC.out HX.out; exact K.out)))
        refine tk 0 (some 20) ?_
        (try simp only [Act.put, p0, p1, p2])
        refine tk 1 (some 21) ?_
        (try simp only [Act.put, p0, p1, p2])
        refine tk 2 (some 22) ?_
        (try simp only [Act.put, p0, p1, p2])
        refine tk 3 (some 23) ?_
        (try simp only [Act.put, p0, p1, p2])
        refine tk 4 (some 24) ?_
        (try simp only [Act.put, p0, p1, p2])
        refine tk 5 (some 25) ?_
        (try simp only [Act.put, p0, p1, p2])
        refine tk 6 (some 26) ?_
        (try simp only [Act.put, p0, p1, p2])
        refine tk 7 (some 27) ?_
        (try simp only [Act.put, p0, p1, p2])
        refine tk 8 (some 28) ?_
        (try simp only [Act.put, p0, p1, p2])
        refine tk 9 (some 29) ?_
        (try simp only [Act.put, p0, p1, p2])
        refine tk 10 (some 30) ?_
        (try simp only [Act.put, p0, p1, p2])
        refine sk 11 (some 31) ?_
        (try simp only [Act.put, p0, p1, p2])
        refine sk 12 (some 32) ?_
        (try simp only [Act.put, p0, p1, p2])
        refine sk 13 (some 33) ?_
        (try simp only [Act.put, p0, p1, p2])
        refine sk 14 (some 34) ?_
        (try simp only [Act.put, p0, p1, p2])
        refine tk 15 (some 35) ?_
        (try simp only [Act.put, p0, p1, p2])
        refine wpAnyH_done (by kernel_rfl) (NoPanic.normal ?_) _
        go_wp2
        go_ret
        exact ⟨ret_i (by rw [E1.out, E2.out]; simp), (show sat w _ _ from (by repeat (with_reducible first | exact K.out | apply sat.alloc_any | apply sat.drew | apply sat.drewN))).below⟩
    · have hnl : n = l.length := by omega
      subst hnl
      have d0 : decide (l.length < l.length) = false := by simp
      have E1 := Lib.hid (show firstM c [] l = -1 from by rw [hfi, List.drop_length]; rfl)
      clear hfi hA
      go_wp2
      go_ret
      exact ⟨ret_i E1.out.symm, K.out.below⟩
end
end Go.Proofs.Ytiladkalijonbaa
