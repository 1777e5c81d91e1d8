/- Several texts in one: LRight. Each says ahead of it what it shows. -/
import Derived.Test.YtdjkblnocooldaaGreatBf
/- Whether calls may have been done so, as the statement itself looks (stackyardlaw14.right). Conditions: the deeds lie in memory as told; numbers within their kinds; at most a hundred thousand deeds. -/
namespace Go.Proofs.YtdjkblnocooldaaGreat
open Go.RowKit Go.SepYtdjkblnocooldaaGreat Go.Maps
set_option linter.unusedSimpArgs false
set_option linter.unusedVariables false
set_option maxRecDepth 100000
set_option maxHeartbeats 4000000
/-- Which of the first k deeds was a thread's last. -/
def OwnI (l : List DeedM) (who : Int) (k : Nat) (own : Int) : Prop := (own = -1 ∧ lastOf (l.take k) who = none) ∨ ∃ j, ∃ hj : j < l.length, j < k ∧ own = j ∧ lastOf (l.take k) who = some l[j]
theorem OwnI.start (l : List DeedM) (who : Int) : OwnI l who 0 (-1) := .inl ⟨rfl, rfl⟩
theorem OwnI.step {l : List DeedM} {who : Int} {k : Nat} {own : Int} (h : OwnI l who k own) (hk : k < l.length) : OwnI l who (k + 1) (if l[k].who = who then (k : Int) else own) := by
  unfold OwnI
  rw [List.take_succ_eq_append_getElem hk, lastOf_snoc]
  by_cases e : l[k].who = who
  · rw [if_pos e, if_pos e]
    exact .inr ⟨k, hk, by omega, rfl, rfl⟩
  · rw [if_neg e, if_neg e]
    rcases h with ⟨h1, h2⟩ | ⟨j, hj, h1, h2, h3⟩
    · exact .inl ⟨h1, h2⟩
    · exact .inr ⟨j, hj, by omega, h2, h3⟩
theorem lastFrom_take {l : List DeedM} {m : Nat} (h : m < l.length) : lastFrom (l.take (m + 1)) = l[m].start := by
  rw [List.take_succ_eq_append_getElem h, lastFrom_snoc]
theorem lright_calls (p : Option Addr) (l : List DeedM) (cap : Nat) (w : World) (hl : l.length ≤ 100000) (hcap : l.length ≤ cap) (hwf : ∀ e ∈ l, DeedM.wf e) (h : OldD w p l) :
    Tells 45 #[.slice p l.length cap] w (.bool (lrightM [] l)) := by
  have K := Lib.hid (sat.start w)
  have H := Lib.hid h
  have HW := Lib.hid hwf
  clear h hwf
  go_enter Tryz.func45, Tryz.ntmps45
  go_wp2
  go_loopg [10] l.length (fun gk i w' => ∃ n : Nat, n + gk = l.length ∧ i = .int .i64 n ∧ lrightM [] l = lrightM (l.take n) (l.drop n) ∧ Below w.heap.size w w')
  case atStart => exact ⟨0, by simp, rfl, by simp, Below.refl _ _⟩
  case round =>
    obtain ⟨n, hn, rfl, hr, hb⟩ := hrel
    have K1 : sat w wr [] := sat.nil hb
    clear K hb
    have K := Lib.hid K1
    clear K1
    by_cases hlt : n < l.length
    · have d0 : decide (n < l.length) = true := by simpa using hlt
      obtain ⟨b, off, rfl, hb0, hx0⟩ := H.out n hlt; have hx : ∀ i u, (DeedM.v l[n])[i]? = some u → wr.cell? ⟨b, off + n * 11 + i, none⟩ = some u := fun i u hi => (K.out.below.cell (p := ⟨b, off + n * 11 + i, none⟩) hb0).trans (hx0 i u hi); have y0 : wr.cell? ⟨b, off + n * 11, none⟩ = _ := hx 0 _ rfl; have y1 := hx 1 _ rfl; have y2 := hx 2 _ rfl; have y3 := hx 3 _ rfl; have y4 := hx 4 _ rfl; have y5 := hx 5 _ rfl; have y6 := hx 6 _ rfl; have y7 := hx 7 _ rfl; have y8 := hx 8 _ rfl; have y9 := hx 9 _ rfl; have y10 := hx 10 _ rfl; clear hx hx0 hb0
      have E2 := Lib.hid (show lrightM [] l = (lokD (l.take n) l[n] && lrightM (l.take (n + 1)) (l.drop (n + 1))) from by
        rw [hr, List.drop_eq_getElem_cons hlt, lrightM, ← List.take_succ_eq_append_getElem hlt])
      have HN := Lib.hid hn
      have hn0 : n < 100000 := by omega
      have b0 : (0 : Int) ≤ (n : Int) := by omega
      have b1 : (n : Int) ≤ (cap : Int) := by omega
      have b2 : n ≤ cap := by omega
      have HLF := Lib.hid (fun (m : Nat) (hm : n = m + 1) (hml : m < l.length) => (show lastFrom (l.take n) = l[m].start from by subst hm; exact lastFrom_take hml))
      have HNE := Lib.hid (show n ≠ 0 → l.take n ≠ [] from fun h0 h1 => by have := congrArg List.length h1; rw [List.length_take, List.length_nil] at this; omega)
      have HZE := Lib.hid (show n = 0 → l.take n = [] from fun h0 => by subst h0; rfl)
      clear hn hr
      generalize l[n] = d at *
      obtain ⟨pre, hpre⟩ : ∃ pre, pre = l.take n := ⟨_, rfl⟩
      have HPRE := Lib.hid hpre.symm
      rw [← hpre] at E2 HLF HNE HZE
      clear hpre
      have CR := fun w' => Lib.hid (callr_calls d.call w')
      obtain ⟨gk', rfl⟩ : ∃ g', gk = g' + 1 := ⟨gk - 1, by have := HN.out; omega⟩
      by_cases q0 : d.start < 0
      · have t0 : decide (d.start < 0) = true := by simpa using q0
        have E3 := Lib.hid (show lrightM [] l = false from by rw [E2.out, show lokD pre d = false from by unfold lokD lokHead; rw [show decide (0 ≤ d.start) = false by simp; omega]; simp]; rfl)
        clear q0
        go_wp2_with (first | ((with_reducible refine at_alloc ?_); refine st_allocf K.out (fun _ => rfl) ?_; intro gd w1 K1; have K2 := Lib.hid K1; clear K1 K; (try clear a0); (try clear l0); (try clear a1); (try clear l1); (try clear a2); (try clear l2); have K := K2; clear K2; have a0 := K.out.rd 0 rfl; have l0 := K.out.ltp 0 rfl) | ((with_reducible refine at_store ?_); refine st_store 0 K.out rfl rfl rfl rfl ?_ ?_ ?_ ?_; (· kernel_rfl); (· simp); (· simp [Value.oneCell']); intro w1 K1; simp only [List.set, putL] at K1; have K2 := Lib.hid K1; clear K1 K; (try clear a0); (try clear l0); (try clear a1); (try clear l1); (try clear a2); (try clear l2); have K := K2; clear K2; have a0 := K.out.rd 0 rfl; have l0 := K.out.ltp 0 rfl))
        refine wp_region_noPanic ?_
        refine wp_region_held_drew (S := (fun w' => (∀ j, w'.cell? ⟨gd, j, none⟩ = d.v[j]?))) (by kernel_rfl) ?_ (fun hHeld => ?_)
        · ((try dsimp only); (first | exact K.out.rd 0 rfl | exact K.out.drew.rd 0 rfl))
        refine tk 0 (some 15) ?_
        (try simp only [Act.put, p0, p1, p2])
        refine tk 1 (some 16) ?_
        (try simp only [Act.put, p0, p1, p2])
        refine tk 2 (some 17) ?_
        (try simp only [Act.put, p0, p1, p2])
        refine tk 3 (some 18) ?_
        (try simp only [Act.put, p0, p1, p2])
        refine sk 4 (some 19) ?_
        (try simp only [Act.put, p0, p1, p2])
        refine sk 5 (some 20) ?_
        (try simp only [Act.put, p0, p1, p2])
        refine sk 6 (some 21) ?_
        (try simp only [Act.put, p0, p1, p2])
        refine sk 7 (some 22) ?_
        (try simp only [Act.put, p0, p1, p2])
        refine sk 8 (some 23) ?_
        (try simp only [Act.put, p0, p1, p2])
        refine sk 9 (some 24) ?_
        (try simp only [Act.put, p0, p1, p2])
        refine sk 10 (some 25) ?_
        (try simp only [Act.put, p0, p1, p2])
        refine sk 11 (some 26) ?_
        (try simp only [Act.put, p0, p1, p2])
        refine sk 12 (some 27) ?_
        (try simp only [Act.put, p0, p1, p2])
        refine sk 13 (some 28) ?_
        (try simp only [Act.put, p0, p1, p2])
        refine sk 14 (some 29) ?_
        (try simp only [Act.put, p0, p1, p2])
        refine sk 15 (some 30) ?_
        (try simp only [Act.put, p0, p1, p2])
        refine sk 16 (some 31) ?_
        (try simp only [Act.put, p0, p1, p2])
        refine tk 17 (some 32) ?_
        (try simp only [Act.put, p0, p1, p2])
        refine tk 18 (some 33) ?_
        (try simp only [Act.put, p0, p1, p2])
        refine sk 19 (some 34) ?_
        (try simp only [Act.put, p0, p1, p2])
        refine sk 20 (some 35) ?_
        (try simp only [Act.put, p0, p1, p2])
        refine sk 21 (some 36) ?_
        (try simp only [Act.put, p0, p1, p2])
        refine sk 22 (some 37) ?_
        (try simp only [Act.put, p0, p1, p2])
        refine sk 23 (some 38) ?_
        (try simp only [Act.put, p0, p1, p2])
        refine sk 24 (some 39) ?_
        (try simp only [Act.put, p0, p1, p2])
        refine sk 25 (some 40) ?_
        (try simp only [Act.put, p0, p1, p2])
        refine sk 26 (some 41) ?_
        (try simp only [Act.put, p0, p1, p2])
        refine sk 27 (some 42) ?_
        (try simp only [Act.put, p0, p1, p2])
        refine sk 28 (some 43) ?_
        (try simp only [Act.put, p0, p1, p2])
        refine tk 29 (some 44) ?_
        (try simp only [Act.put, p0, p1, p2])
        refine tk 30 (some 45) ?_
        (try simp only [Act.put, p0, p1, p2])
        refine sk 31 (some 46) ?_
        (try simp only [Act.put, p0, p1, p2])
        refine sk 32 (some 47) ?_
        (try simp only [Act.put, p0, p1, p2])
        refine sk 33 (some 48) ?_
        (try simp only [Act.put, p0, p1, p2])
        refine sk 34 (some 49) ?_
        (try simp only [Act.put, p0, p1, p2])
        refine tk 35 (some 50) ?_
        (try simp only [Act.put, p0, p1, p2])
        refine wpAnyH_done (by kernel_rfl) (NoPanic.normal ?_) _
        go_wp2
        go_ret
        exact ⟨ret_b E3.out.symm, (show sat w _ _ from by first | exact K.out | exact K.out.drew).below⟩
      have t0 : decide (d.start < 0) = false := by simpa using q0
      have EZ := Lib.hid (show decide (0 ≤ d.start) = true from by simp; omega)
      clear q0
      rcases Nat.eq_zero_or_pos n with hz | hpos
      · have EP := Lib.hid (show (decide (pre = []) || decide (lastFrom pre < d.start)) = true from by rw [HZE.out hz]; rfl)
        subst hz
        simp only [Nat.zero_mul, Nat.add_zero] at y0 y1 y2 y3 y4 y5 y6 y7 y8 y9 y10
        have tn : decide (((0 : Nat) : Int) > 0) = false := rfl
        by_cases q2 : 0 ≤ d.stop ∧ d.stop ≤ d.start
        · obtain ⟨q2, q3⟩ := q2
          have t2 : decide (d.stop ≥ 0) = true := by simpa using q2
          have t3 : decide (d.stop ≤ d.start) = true := by simpa using q3
          have E3 := Lib.hid (show lrightM [] l = false from by rw [E2.out, show lokD pre d = false from by unfold lokD lokHead; rw [show decide (d.stop < 0) = false by simp; omega, show decide (d.start < d.stop) = false by simp; omega]; simp]; rfl)
          clear q2 q3
          go_wp2_with (first | ((with_reducible refine at_alloc ?_); refine st_allocf K.out (fun _ => rfl) ?_; intro gd w1 K1; have K2 := Lib.hid K1; clear K1 K; (try clear a0); (try clear l0); (try clear a1); (try clear l1); (try clear a2); (try clear l2); have K := K2; clear K2; have a0 := K.out.rd 0 rfl; have l0 := K.out.ltp 0 rfl) | ((with_reducible refine at_store ?_); refine st_store 0 K.out rfl rfl rfl rfl ?_ ?_ ?_ ?_; (· kernel_rfl); (· simp); (· simp [Value.oneCell']); intro w1 K1; simp only [List.set, putL] at K1; have K2 := Lib.hid K1; clear K1 K; (try clear a0); (try clear l0); (try clear a1); (try clear l1); (try clear a2); (try clear l2); have K := K2; clear K2; have a0 := K.out.rd 0 rfl; have l0 := K.out.ltp 0 rfl))
          refine wp_region_noPanic ?_
          refine wp_region_held_drew (S := (fun w' => (∀ j, w'.cell? ⟨gd, j, none⟩ = d.v[j]?))) (by kernel_rfl) ?_ (fun hHeld => ?_)
          · ((try dsimp only); (first | exact K.out.rd 0 rfl | exact K.out.drew.rd 0 rfl))
          refine tk 0 (some 15) ?_
          (try simp only [Act.put, p0, p1, p2])
          refine tk 1 (some 16) ?_
          (try simp only [Act.put, p0, p1, p2])
          refine tk 2 (some 17) ?_
          (try simp only [Act.put, p0, p1, p2])
          refine tk 3 (some 18) ?_
          (try simp only [Act.put, p0, p1, p2])
          refine tk 4 (some 19) ?_
          (try simp only [Act.put, p0, p1, p2])
          refine tk 5 (some 20) ?_
          (try simp only [Act.put, p0, p1, p2])
          refine tk 6 (some 21) ?_
          (try simp only [Act.put, p0, p1, p2])
          refine sk 7 (some 22) ?_
          (try simp only [Act.put, p0, p1, p2])
          refine sk 8 (some 23) ?_
          (try simp only [Act.put, p0, p1, p2])
          refine sk 9 (some 24) ?_
          (try simp only [Act.put, p0, p1, p2])
          refine sk 10 (some 25) ?_
          (try simp only [Act.put, p0, p1, p2])
          refine sk 11 (some 26) ?_
          (try simp only [Act.put, p0, p1, p2])
          refine sk 12 (some 27) ?_
          (try simp only [Act.put, p0, p1, p2])
          refine sk 13 (some 28) ?_
          (try simp only [Act.put, p0, p1, p2])
          refine sk 14 (some 29) ?_
          (try simp only [Act.put, p0, p1, p2])
          refine sk 15 (some 30) ?_
          (try simp only [Act.put, p0, p1, p2])
          refine tk 16 (some 31) ?_
          (try simp only [Act.put, p0, p1, p2])
          refine tk 17 (some 32) ?_
          (try simp only [Act.put, p0, p1, p2])
          refine tk 18 (some 33) ?_
          (try simp only [Act.put, p0, p1, p2])
          refine tk 19 (some 34) ?_
          (try simp only [Act.put, p0, p1, p2])
          refine tk 20 (some 35) ?_
          (try simp only [Act.put, p0, p1, p2])
          refine tk 21 (some 36) ?_
          (try simp only [Act.put, p0, p1, p2])
          refine tk 22 (some 37) ?_
          (try simp only [Act.put, p0, p1, p2])
          refine tk 23 (some 38) ?_
          (try simp only [Act.put, p0, p1, p2])
          refine tk 24 (some 39) ?_
          (try simp only [Act.put, p0, p1, p2])
          refine tk 25 (some 40) ?_
          (try simp only [Act.put, p0, p1, p2])
          refine tk 26 (some 41) ?_
          (try simp only [Act.put, p0, p1, p2])
          refine tk 27 (some 42) ?_
          (try simp only [Act.put, p0, p1, p2])
          refine tk 28 (some 43) ?_
          (try simp only [Act.put, p0, p1, p2])
          refine tk 29 (some 44) ?_
          (try simp only [Act.put, p0, p1, p2])
          refine tk 30 (some 45) ?_
          (try simp only [Act.put, p0, p1, p2])
          refine sk 31 (some 46) ?_
          (try simp only [Act.put, p0, p1, p2])
          refine sk 32 (some 47) ?_
          (try simp only [Act.put, p0, p1, p2])
          refine sk 33 (some 48) ?_
          (try simp only [Act.put, p0, p1, p2])
          refine sk 34 (some 49) ?_
          (try simp only [Act.put, p0, p1, p2])
          refine tk 35 (some 50) ?_
          (try simp only [Act.put, p0, p1, p2])
          refine wpAnyH_done (by kernel_rfl) (NoPanic.normal ?_) _
          go_wp2
          go_ret
          exact ⟨ret_b E3.out.symm, (show sat w _ _ from by first | exact K.out | exact K.out.drew).below⟩
        cases q4 : d.call.right with
        | false =>
          have E3 := Lib.hid (show lrightM [] l = false from by rw [E2.out, show lokD pre d = false from by unfold lokD lokHead; rw [q4]; simp]; rfl)
          rw [q4] at CR
          by_cases q5 : 0 ≤ d.stop
          · have t2 : decide (d.stop ≥ 0) = true := by simpa using q5
            have t3 : decide (d.stop ≤ d.start) = false := by simp; omega
            clear q2 q5
            go_wp2_with (first | ((with_reducible refine at_alloc ?_); refine st_allocf K.out (fun _ => rfl) ?_; intro gd w1 K1; have K2 := Lib.hid K1; clear K1 K; (try clear a0); (try clear l0); (try clear a1); (try clear l1); (try clear a2); (try clear l2); have K := K2; clear K2; have a0 := K.out.rd 0 rfl; have l0 := K.out.ltp 0 rfl) | ((with_reducible refine at_store ?_); refine st_store 0 K.out rfl rfl rfl rfl ?_ ?_ ?_ ?_; (· kernel_rfl); (· simp); (· simp [Value.oneCell']); intro w1 K1; simp only [List.set, putL] at K1; have K2 := Lib.hid K1; clear K1 K; (try clear a0); (try clear l0); (try clear a1); (try clear l1); (try clear a2); (try clear l2); have K := K2; clear K2; have a0 := K.out.rd 0 rfl; have l0 := K.out.ltp 0 rfl))
            refine wp_region_noPanic ?_
            refine wp_region_held_drew (S := (fun w' => (∀ j, w'.cell? ⟨gd, j, none⟩ = d.v[j]?))) (by kernel_rfl) ?_ (fun hHeld => ?_)
            · ((try dsimp only); (first | exact K.out.rd 0 rfl | exact K.out.drew.rd 0 rfl))
            refine tk 0 (some 15) ?_
            (try simp only [Act.put, p0, p1, p2])
            refine tk 1 (some 16) ?_
            (try simp only [Act.put, p0, p1, p2])
            refine tk 2 (some 17) ?_
            (try simp only [Act.put, p0, p1, p2])
            refine tk 3 (some 18) ?_
            (try simp only [Act.put, p0, p1, p2])
            refine tk 4 (some 19) ?_
            (try simp only [Act.put, p0, p1, p2])
            refine tk 5 (some 20) ?_
            (try simp only [Act.put, p0, p1, p2])
            refine tk 6 (some 21) ?_
            (try simp only [Act.put, p0, p1, p2])
            refine sk 7 (some 22) ?_
            (try simp only [Act.put, p0, p1, p2])
            refine sk 8 (some 23) ?_
            (try simp only [Act.put, p0, p1, p2])
            refine sk 9 (some 24) ?_
            (try simp only [Act.put, p0, p1, p2])
            refine sk 10 (some 25) ?_
            (try simp only [Act.put, p0, p1, p2])
            refine sk 11 (some 26) ?_
            (try simp only [Act.put, p0, p1, p2])
            refine sk 12 (some 27) ?_
            (try simp only [Act.put, p0, p1, p2])
            refine sk 13 (some 28) ?_
            (try simp only [Act.put, p0, p1, p2])
            refine sk 14 (some 29) ?_
            (try simp only [Act.put, p0, p1, p2])
            refine sk 15 (some 30) ?_
            (try simp only [Act.put, p0, p1, p2])
            refine tk 16 (some 31) ?_
            (try simp only [Act.put, p0, p1, p2])
            refine tk 17 (some 32) ?_
            (try simp only [Act.put, p0, p1, p2])
            refine tk 18 (some 33) ?_
            (try simp only [Act.put, p0, p1, p2])
            refine tk 19 (some 34) ?_
            (try simp only [Act.put, p0, p1, p2])
            refine tk 20 (some 35) ?_
            (try simp only [Act.put, p0, p1, p2])
            refine tk 21 (some 36) ?_
            (try simp only [Act.put, p0, p1, p2])
            refine tk 22 (some 37) ?_
            (try simp only [Act.put, p0, p1, p2])
            refine tk 23 (some 38) ?_
            (try simp only [Act.put, p0, p1, p2])
            refine tk 24 (some 39) ?_
            (try simp only [Act.put, p0, p1, p2])
            refine tk 25 (some 40) ?_
            (try simp only [Act.put, p0, p1, p2])
            refine tk 26 (some 41) ?_
            (try simp only [Act.put, p0, p1, p2])
            refine tk 27 (some 42) ?_
            (try simp only [Act.put, p0, p1, p2])
            refine tk 28 (some 43) ?_
            (try simp only [Act.put, p0, p1, p2])
            refine tk 29 (some 44) ?_
            (try simp only [Act.put, p0, p1, p2])
            refine tk 30 (some 45) ?_
            (try simp only [Act.put, p0, p1, p2])
            refine tk 31 (some 46) ?_
            (try simp only [Act.put, p0, p1, p2])
            refine tk 32 (some 47) ?_
            (try simp only [Act.put, p0, p1, p2])
            refine wpAnyH_ready (rs := [33]) (by kernel_rfl) (by simp) ?_
            refine AllReadyH.cons (o := _) rfl (fun kC hkC => ?_) AllReadyH.nil
            go_simp
            (first | (go_at_call 68; (with_reducible refine ((CR _).out).mono ?_); rintro e w1 ⟨rfl, hb⟩; have K1 := sat.grown (show sat _ _ _ from by first | exact K.out | exact K.out.drew) hb; clear hb; have K2 := Lib.hid K1; clear K1 K; (try clear a0); (try clear l0); (try clear f0); (try clear a1); (try clear l1); (try clear f1); (try clear a2); (try clear l2); (try clear f2); (try clear a3); (try clear l3); (try clear f3); (try clear a4); (try clear l4); (try clear f4); (try clear a5); (try clear l5); (try clear f5); have K := K2; clear K2; (try have a0 := K.out.rd 0 rfl); (try have l0 := K.out.ltp 0 rfl); (try have f0 := K.out.fr 0 rfl); (try have a1 := K.out.rd 1 rfl); (try have l1 := K.out.ltp 1 rfl); (try have f1 := K.out.fr 1 rfl); (try have a2 := K.out.rd 2 rfl); (try have l2 := K.out.ltp 2 rfl); (try have f2 := K.out.fr 2 rfl); (try have a3 := K.out.rd 3 rfl); (try have l3 := K.out.ltp 3 rfl); (try have f3 := K.out.fr 3 rfl)))
            refine shown hkC _ _ (by (try dsimp only); (first | exact K.out.rd 0 rfl | exact K.out.drew.rd 0 rfl)) ?_; clear hkC kC hHeld; intro hHeld
            (try simp only [Act.put, p0, p1, p2])
            refine tk 34 (some 49) ?_
            (try simp only [Act.put, p0, p1, p2])
            refine tk 35 (some 50) ?_
            (try simp only [Act.put, p0, p1, p2])
            refine wpAnyH_done (by kernel_rfl) (NoPanic.normal ?_) _
            go_wp2
            go_ret
            exact ⟨ret_b E3.out.symm, (show sat w _ _ from by first | exact K.out | exact K.out.drew).below⟩
          · have t2 : decide (d.stop ≥ 0) = false := by simpa using q5
            clear q2 q5
            go_wp2_with (first | ((with_reducible refine at_alloc ?_); refine st_allocf K.out (fun _ => rfl) ?_; intro gd w1 K1; have K2 := Lib.hid K1; clear K1 K; (try clear a0); (try clear l0); (try clear a1); (try clear l1); (try clear a2); (try clear l2); have K := K2; clear K2; have a0 := K.out.rd 0 rfl; have l0 := K.out.ltp 0 rfl) | ((with_reducible refine at_store ?_); refine st_store 0 K.out rfl rfl rfl rfl ?_ ?_ ?_ ?_; (· kernel_rfl); (· simp); (· simp [Value.oneCell']); intro w1 K1; simp only [List.set, putL] at K1; have K2 := Lib.hid K1; clear K1 K; (try clear a0); (try clear l0); (try clear a1); (try clear l1); (try clear a2); (try clear l2); have K := K2; clear K2; have a0 := K.out.rd 0 rfl; have l0 := K.out.ltp 0 rfl))
            refine wp_region_noPanic ?_
            refine wp_region_held_drew (S := (fun w' => (∀ j, w'.cell? ⟨gd, j, none⟩ = d.v[j]?))) (by kernel_rfl) ?_ (fun hHeld => ?_)
            · ((try dsimp only); (first | exact K.out.rd 0 rfl | exact K.out.drew.rd 0 rfl))
            refine tk 0 (some 15) ?_
            (try simp only [Act.put, p0, p1, p2])
            refine tk 1 (some 16) ?_
            (try simp only [Act.put, p0, p1, p2])
            refine tk 2 (some 17) ?_
            (try simp only [Act.put, p0, p1, p2])
            refine tk 3 (some 18) ?_
            (try simp only [Act.put, p0, p1, p2])
            refine tk 4 (some 19) ?_
            (try simp only [Act.put, p0, p1, p2])
            refine tk 5 (some 20) ?_
            (try simp only [Act.put, p0, p1, p2])
            refine tk 6 (some 21) ?_
            (try simp only [Act.put, p0, p1, p2])
            refine sk 7 (some 22) ?_
            (try simp only [Act.put, p0, p1, p2])
            refine sk 8 (some 23) ?_
            (try simp only [Act.put, p0, p1, p2])
            refine sk 9 (some 24) ?_
            (try simp only [Act.put, p0, p1, p2])
            refine sk 10 (some 25) ?_
            (try simp only [Act.put, p0, p1, p2])
            refine sk 11 (some 26) ?_
            (try simp only [Act.put, p0, p1, p2])
            refine sk 12 (some 27) ?_
            (try simp only [Act.put, p0, p1, p2])
            refine sk 13 (some 28) ?_
            (try simp only [Act.put, p0, p1, p2])
            refine sk 14 (some 29) ?_
            (try simp only [Act.put, p0, p1, p2])
            refine sk 15 (some 30) ?_
            (try simp only [Act.put, p0, p1, p2])
            refine tk 16 (some 31) ?_
            (try simp only [Act.put, p0, p1, p2])
            refine tk 17 (some 32) ?_
            (try simp only [Act.put, p0, p1, p2])
            refine tk 18 (some 33) ?_
            (try simp only [Act.put, p0, p1, p2])
            refine tk 19 (some 34) ?_
            (try simp only [Act.put, p0, p1, p2])
            refine tk 20 (some 35) ?_
            (try simp only [Act.put, p0, p1, p2])
            refine tk 21 (some 36) ?_
            (try simp only [Act.put, p0, p1, p2])
            refine tk 22 (some 37) ?_
            (try simp only [Act.put, p0, p1, p2])
            refine sk 23 (some 38) ?_
            (try simp only [Act.put, p0, p1, p2])
            refine sk 24 (some 39) ?_
            (try simp only [Act.put, p0, p1, p2])
            refine sk 25 (some 40) ?_
            (try simp only [Act.put, p0, p1, p2])
            refine sk 26 (some 41) ?_
            (try simp only [Act.put, p0, p1, p2])
            refine sk 27 (some 42) ?_
            (try simp only [Act.put, p0, p1, p2])
            refine tk 28 (some 43) ?_
            (try simp only [Act.put, p0, p1, p2])
            refine tk 29 (some 44) ?_
            (try simp only [Act.put, p0, p1, p2])
            refine tk 30 (some 45) ?_
            (try simp only [Act.put, p0, p1, p2])
            refine tk 31 (some 46) ?_
            (try simp only [Act.put, p0, p1, p2])
            refine tk 32 (some 47) ?_
            (try simp only [Act.put, p0, p1, p2])
            refine wpAnyH_ready (rs := [33]) (by kernel_rfl) (by simp) ?_
            refine AllReadyH.cons (o := _) rfl (fun kC hkC => ?_) AllReadyH.nil
            go_simp
            (first | (go_at_call 68; (with_reducible refine ((CR _).out).mono ?_); rintro e w1 ⟨rfl, hb⟩; have K1 := sat.grown (show sat _ _ _ from by first | exact K.out | exact K.out.drew) hb; clear hb; have K2 := Lib.hid K1; clear K1 K; (try clear a0); (try clear l0); (try clear f0); (try clear a1); (try clear l1); (try clear f1); (try clear a2); (try clear l2); (try clear f2); (try clear a3); (try clear l3); (try clear f3); (try clear a4); (try clear l4); (try clear f4); (try clear a5); (try clear l5); (try clear f5); have K := K2; clear K2; (try have a0 := K.out.rd 0 rfl); (try have l0 := K.out.ltp 0 rfl); (try have f0 := K.out.fr 0 rfl); (try have a1 := K.out.rd 1 rfl); (try have l1 := K.out.ltp 1 rfl); (try have f1 := K.out.fr 1 rfl); (try have a2 := K.out.rd 2 rfl); (try have l2 := K.out.ltp 2 rfl); (try have f2 := K.out.fr 2 rfl); (try have a3 := K.out.rd 3 rfl); (try have l3 := K.out.ltp 3 rfl); (try have f3 := K.out.fr 3 rfl)))
            refine shown hkC _ _ (by (try dsimp only); (first | exact K.out.rd 0 rfl | exact K.out.drew.rd 0 rfl)) ?_; clear hkC kC hHeld; intro hHeld
            (try simp only [Act.put, p0, p1, p2])
            refine tk 34 (some 49) ?_
            (try simp only [Act.put, p0, p1, p2])
            refine tk 35 (some 50) ?_
            (try simp only [Act.put, p0, p1, p2])
            refine wpAnyH_done (by kernel_rfl) (NoPanic.normal ?_) _
            go_wp2
            go_ret
            exact ⟨ret_b E3.out.symm, (show sat w _ _ from by first | exact K.out | exact K.out.drew).below⟩
        | true =>
          rw [q4] at CR
          by_cases q5 : 0 ≤ d.stop
          · have t2 : decide (d.stop ≥ 0) = true := by simpa using q5
            have t3 : decide (d.stop ≤ d.start) = false := by simp; omega
            have EH := Lib.hid (show lokHead pre d = true from by unfold lokHead; rw [EZ.out, EP.out, q4, show decide (d.start < d.stop) = true by simp; omega]; simp)
            clear q2 q5
            go_wp2_with (first | ((with_reducible refine at_alloc ?_); refine st_allocf K.out (fun _ => rfl) ?_; intro gd w1 K1; have K2 := Lib.hid K1; clear K1 K; (try clear a0); (try clear l0); (try clear a1); (try clear l1); (try clear a2); (try clear l2); have K := K2; clear K2; have a0 := K.out.rd 0 rfl; have l0 := K.out.ltp 0 rfl) | ((with_reducible refine at_store ?_); refine st_store 0 K.out rfl rfl rfl rfl ?_ ?_ ?_ ?_; (· kernel_rfl); (· simp); (· simp [Value.oneCell']); intro w1 K1; simp only [List.set, putL] at K1; have K2 := Lib.hid K1; clear K1 K; (try clear a0); (try clear l0); (try clear a1); (try clear l1); (try clear a2); (try clear l2); have K := K2; clear K2; have a0 := K.out.rd 0 rfl; have l0 := K.out.ltp 0 rfl))
            refine wp_region_noPanic ?_
            refine wp_region_held_drew (S := (fun w' => (∀ j, w'.cell? ⟨gd, j, none⟩ = d.v[j]?))) (by kernel_rfl) ?_ (fun hHeld => ?_)
            · ((try dsimp only); (first | exact K.out.rd 0 rfl | exact K.out.drew.rd 0 rfl))
            refine tk 0 (some 15) ?_
            (try simp only [Act.put, p0, p1, p2])
            refine tk 1 (some 16) ?_
            (try simp only [Act.put, p0, p1, p2])
            refine tk 2 (some 17) ?_
            (try simp only [Act.put, p0, p1, p2])
            refine tk 3 (some 18) ?_
            (try simp only [Act.put, p0, p1, p2])
            refine tk 4 (some 19) ?_
            (try simp only [Act.put, p0, p1, p2])
            refine tk 5 (some 20) ?_
            (try simp only [Act.put, p0, p1, p2])
            refine tk 6 (some 21) ?_
            (try simp only [Act.put, p0, p1, p2])
            refine sk 7 (some 22) ?_
            (try simp only [Act.put, p0, p1, p2])
            refine sk 8 (some 23) ?_
            (try simp only [Act.put, p0, p1, p2])
            refine sk 9 (some 24) ?_
            (try simp only [Act.put, p0, p1, p2])
            refine sk 10 (some 25) ?_
            (try simp only [Act.put, p0, p1, p2])
            refine sk 11 (some 26) ?_
            (try simp only [Act.put, p0, p1, p2])
            refine sk 12 (some 27) ?_
            (try simp only [Act.put, p0, p1, p2])
            refine sk 13 (some 28) ?_
            (try simp only [Act.put, p0, p1, p2])
            refine sk 14 (some 29) ?_
            (try simp only [Act.put, p0, p1, p2])
            refine sk 15 (some 30) ?_
            (try simp only [Act.put, p0, p1, p2])
            refine tk 16 (some 31) ?_
            (try simp only [Act.put, p0, p1, p2])
            refine tk 17 (some 32) ?_
            (try simp only [Act.put, p0, p1, p2])
            refine tk 18 (some 33) ?_
            (try simp only [Act.put, p0, p1, p2])
            refine tk 19 (some 34) ?_
            (try simp only [Act.put, p0, p1, p2])
            refine tk 20 (some 35) ?_
            (try simp only [Act.put, p0, p1, p2])
            refine tk 21 (some 36) ?_
            (try simp only [Act.put, p0, p1, p2])
            refine tk 22 (some 37) ?_
            (try simp only [Act.put, p0, p1, p2])
            refine tk 23 (some 38) ?_
            (try simp only [Act.put, p0, p1, p2])
            refine tk 24 (some 39) ?_
            (try simp only [Act.put, p0, p1, p2])
            refine tk 25 (some 40) ?_
            (try simp only [Act.put, p0, p1, p2])
            refine tk 26 (some 41) ?_
            (try simp only [Act.put, p0, p1, p2])
            refine tk 27 (some 42) ?_
            (try simp only [Act.put, p0, p1, p2])
            refine tk 28 (some 43) ?_
            (try simp only [Act.put, p0, p1, p2])
            refine tk 29 (some 44) ?_
            (try simp only [Act.put, p0, p1, p2])
            refine tk 30 (some 45) ?_
            (try simp only [Act.put, p0, p1, p2])
            refine tk 31 (some 46) ?_
            (try simp only [Act.put, p0, p1, p2])
            refine tk 32 (some 47) ?_
            (try simp only [Act.put, p0, p1, p2])
            refine wpAnyH_ready (rs := [33]) (by kernel_rfl) (by simp) ?_
            refine AllReadyH.cons (o := _) rfl (fun kC hkC => ?_) AllReadyH.nil
            go_simp
            (first | (go_at_call 68; (with_reducible refine ((CR _).out).mono ?_); rintro e w1 ⟨rfl, hb⟩; have K1 := sat.grown (show sat _ _ _ from by first | exact K.out | exact K.out.drew) hb; clear hb; have K2 := Lib.hid K1; clear K1 K; (try clear a0); (try clear l0); (try clear f0); (try clear a1); (try clear l1); (try clear f1); (try clear a2); (try clear l2); (try clear f2); (try clear a3); (try clear l3); (try clear f3); (try clear a4); (try clear l4); (try clear f4); (try clear a5); (try clear l5); (try clear f5); have K := K2; clear K2; (try have a0 := K.out.rd 0 rfl); (try have l0 := K.out.ltp 0 rfl); (try have f0 := K.out.fr 0 rfl); (try have a1 := K.out.rd 1 rfl); (try have l1 := K.out.ltp 1 rfl); (try have f1 := K.out.fr 1 rfl); (try have a2 := K.out.rd 2 rfl); (try have l2 := K.out.ltp 2 rfl); (try have f2 := K.out.fr 2 rfl); (try have a3 := K.out.rd 3 rfl); (try have l3 := K.out.ltp 3 rfl); (try have f3 := K.out.fr 3 rfl)))
            refine shown hkC _ _ (by (try dsimp only); (first | exact K.out.rd 0 rfl | exact K.out.drew.rd 0 rfl)) ?_; clear hkC kC hHeld; intro hHeld
            (try simp only [Act.put, p0, p1, p2])
            refine tk 34 (some 49) ?_
            (try simp only [Act.put, p0, p1, p2])
            refine tk 35 (some 50) ?_
            (try simp only [Act.put, p0, p1, p2])
            refine wpAnyH_done (by kernel_rfl) (NoPanic.normal ?_) _
            have K1 : sat w _ _ := (by first | exact K.out | exact K.out.drew)
            clear K
            (try clear a0)
            (try clear l0)
            have K := Lib.hid K1
            clear K1
            have a0 := K.out.rd 0 rfl
            have l0 := K.out.ltp 0 rfl
            go_wp2
            go_loopg [55, 5] 0 (fun gk i ow w' => ∃ (k : Nat) (own : Int), k + gk = 0 ∧ i = .int .i64 k ∧ ow = .int .i64 own ∧ OwnI l d.who k own ∧ (l.take k).all (lokO d) = true ∧ sat w w' [deedA gd d])
            case atStart => exact ⟨0, -1, by simp, rfl, rfl, OwnI.start _ _, rfl, K.out⟩
            case round =>
              obtain ⟨k, own, hk, rfl, rfl, hO, hA, hs⟩ := hrel
              clear K a0 l0
              have K := Lib.hid hs
              clear hs
              have a0 := K.out.rd 0 rfl
              have l0 := K.out.ltp 0 rfl
              have HO := Lib.hid hO
              have HA := Lib.hid hA
              have HK := Lib.hid hk
              clear hO hA
              by_cases hlt : k < 0
              · exact absurd hlt (by omega)
              · have hkl : k = 0 := by omega
                subst hkl
                have d0 : decide (0 < 0) = false := by simp
                clear hlt hk
                rcases HO.out with ⟨rfl, hno⟩ | ⟨j, hj, hjk, rfl, hso⟩
                · have E7 := Lib.hid (show lrightM [] l = lrightM (l.take (0 + 1)) (l.drop (0 + 1)) from by
                    rw [E2.out, show lokD pre d = true from by unfold lokD okOwn; rw [EH.out, ← HPRE.out, HA.out, hno]; rfl, Bool.true_and])
                  clear hno
                  go_wp2_with fail
                  refine wp_region_noPanic ?_
                  refine wp_region_held_drew (S := (fun w' => (∀ j, w'.cell? ⟨gd, j, none⟩ = d.v[j]?))) (by kernel_rfl) ?_ (fun hHeld => ?_)
                  · ((try dsimp only); (first | exact K.out.rd 0 rfl | exact K.out.drew.rd 0 rfl))
                  refine tk 0 (some 91) ?_
                  (try simp only [Act.put, p0, p1, p2])
                  refine tk 1 (some 92) ?_
                  (try simp only [Act.put, p0, p1, p2])
                  refine tk 2 (some 93) ?_
                  (try simp only [Act.put, p0, p1, p2])
                  refine sk 3 (some 94) ?_
                  (try simp only [Act.put, p0, p1, p2])
                  refine sk 4 (some 95) ?_
                  (try simp only [Act.put, p0, p1, p2])
                  refine sk 5 (some 96) ?_
                  (try simp only [Act.put, p0, p1, p2])
                  refine sk 6 (some 97) ?_
                  (try simp only [Act.put, p0, p1, p2])
                  refine sk 7 (some 98) ?_
                  (try simp only [Act.put, p0, p1, p2])
                  refine sk 8 (some 99) ?_
                  (try simp only [Act.put, p0, p1, p2])
                  refine sk 9 (some 100) ?_
                  (try simp only [Act.put, p0, p1, p2])
                  refine tk 10 (some 101) ?_
                  (try simp only [Act.put, p0, p1, p2])
                  refine wpAnyH_done (by kernel_rfl) (NoPanic.normal ?_) _
                  go_wp2
                  go_roundg gk'
                  case measure => omega
                  case rel => exact ⟨0 + 1, by have := HN.out; omega, by simp, E7.out, (show sat w _ _ from by first | exact K.out | exact K.out.drew).below⟩
                · exact absurd hjk (Nat.not_lt_zero _)
          · have t2 : decide (d.stop ≥ 0) = false := by simpa using q5
            have EH := Lib.hid (show lokHead pre d = true from by unfold lokHead; rw [EZ.out, EP.out, q4, show decide (d.stop < 0) = true by simp; omega]; simp)
            clear q2 q5
            go_wp2_with (first | ((with_reducible refine at_alloc ?_); refine st_allocf K.out (fun _ => rfl) ?_; intro gd w1 K1; have K2 := Lib.hid K1; clear K1 K; (try clear a0); (try clear l0); (try clear a1); (try clear l1); (try clear a2); (try clear l2); have K := K2; clear K2; have a0 := K.out.rd 0 rfl; have l0 := K.out.ltp 0 rfl) | ((with_reducible refine at_store ?_); refine st_store 0 K.out rfl rfl rfl rfl ?_ ?_ ?_ ?_; (· kernel_rfl); (· simp); (· simp [Value.oneCell']); intro w1 K1; simp only [List.set, putL] at K1; have K2 := Lib.hid K1; clear K1 K; (try clear a0); (try clear l0); (try clear a1); (try clear l1); (try clear a2); (try clear l2); have K := K2; clear K2; have a0 := K.out.rd 0 rfl; have l0 := K.out.ltp 0 rfl))
            refine wp_region_noPanic ?_
            refine wp_region_held_drew (S := (fun w' => (∀ j, w'.cell? ⟨gd, j, none⟩ = d.v[j]?))) (by kernel_rfl) ?_ (fun hHeld => ?_)
            · ((try dsimp only); (first | exact K.out.rd 0 rfl | exact K.out.drew.rd 0 rfl))
            refine tk 0 (some 15) ?_
            (try simp only [Act.put, p0, p1, p2])
            refine tk 1 (some 16) ?_
            (try simp only [Act.put, p0, p1, p2])
            refine tk 2 (some 17) ?_
            (try simp only [Act.put, p0, p1, p2])
            refine tk 3 (some 18) ?_
            (try simp only [Act.put, p0, p1, p2])
            refine tk 4 (some 19) ?_
            (try simp only [Act.put, p0, p1, p2])
            refine tk 5 (some 20) ?_
            (try simp only [Act.put, p0, p1, p2])
            refine tk 6 (some 21) ?_
            (try simp only [Act.put, p0, p1, p2])
            refine sk 7 (some 22) ?_
            (try simp only [Act.put, p0, p1, p2])
            refine sk 8 (some 23) ?_
            (try simp only [Act.put, p0, p1, p2])
            refine sk 9 (some 24) ?_
            (try simp only [Act.put, p0, p1, p2])
            refine sk 10 (some 25) ?_
            (try simp only [Act.put, p0, p1, p2])
            refine sk 11 (some 26) ?_
            (try simp only [Act.put, p0, p1, p2])
            refine sk 12 (some 27) ?_
            (try simp only [Act.put, p0, p1, p2])
            refine sk 13 (some 28) ?_
            (try simp only [Act.put, p0, p1, p2])
            refine sk 14 (some 29) ?_
            (try simp only [Act.put, p0, p1, p2])
            refine sk 15 (some 30) ?_
            (try simp only [Act.put, p0, p1, p2])
            refine tk 16 (some 31) ?_
            (try simp only [Act.put, p0, p1, p2])
            refine tk 17 (some 32) ?_
            (try simp only [Act.put, p0, p1, p2])
            refine tk 18 (some 33) ?_
            (try simp only [Act.put, p0, p1, p2])
            refine tk 19 (some 34) ?_
            (try simp only [Act.put, p0, p1, p2])
            refine tk 20 (some 35) ?_
            (try simp only [Act.put, p0, p1, p2])
            refine tk 21 (some 36) ?_
            (try simp only [Act.put, p0, p1, p2])
            refine tk 22 (some 37) ?_
            (try simp only [Act.put, p0, p1, p2])
            refine sk 23 (some 38) ?_
            (try simp only [Act.put, p0, p1, p2])
            refine sk 24 (some 39) ?_
            (try simp only [Act.put, p0, p1, p2])
            refine sk 25 (some 40) ?_
            (try simp only [Act.put, p0, p1, p2])
            refine sk 26 (some 41) ?_
            (try simp only [Act.put, p0, p1, p2])
            refine sk 27 (some 42) ?_
            (try simp only [Act.put, p0, p1, p2])
            refine tk 28 (some 43) ?_
            (try simp only [Act.put, p0, p1, p2])
            refine tk 29 (some 44) ?_
            (try simp only [Act.put, p0, p1, p2])
            refine tk 30 (some 45) ?_
            (try simp only [Act.put, p0, p1, p2])
            refine tk 31 (some 46) ?_
            (try simp only [Act.put, p0, p1, p2])
            refine tk 32 (some 47) ?_
            (try simp only [Act.put, p0, p1, p2])
            refine wpAnyH_ready (rs := [33]) (by kernel_rfl) (by simp) ?_
            refine AllReadyH.cons (o := _) rfl (fun kC hkC => ?_) AllReadyH.nil
            go_simp
            (first | (go_at_call 68; (with_reducible refine ((CR _).out).mono ?_); rintro e w1 ⟨rfl, hb⟩; have K1 := sat.grown (show sat _ _ _ from by first | exact K.out | exact K.out.drew) hb; clear hb; have K2 := Lib.hid K1; clear K1 K; (try clear a0); (try clear l0); (try clear f0); (try clear a1); (try clear l1); (try clear f1); (try clear a2); (try clear l2); (try clear f2); (try clear a3); (try clear l3); (try clear f3); (try clear a4); (try clear l4); (try clear f4); (try clear a5); (try clear l5); (try clear f5); have K := K2; clear K2; (try have a0 := K.out.rd 0 rfl); (try have l0 := K.out.ltp 0 rfl); (try have f0 := K.out.fr 0 rfl); (try have a1 := K.out.rd 1 rfl); (try have l1 := K.out.ltp 1 rfl); (try have f1 := K.out.fr 1 rfl); (try have a2 := K.out.rd 2 rfl); (try have l2 := K.out.ltp 2 rfl); (try have f2 := K.out.fr 2 rfl); (try have a3 := K.out.rd 3 rfl); (try have l3 := K.out.ltp 3 rfl); (try have f3 := K.out.fr 3 rfl)))
            refine shown hkC _ _ (by (try dsimp only); (first | exact K.out.rd 0 rfl | exact K.out.drew.rd 0 rfl)) ?_; clear hkC kC hHeld; intro hHeld
            (try simp only [Act.put, p0, p1, p2])
            refine tk 34 (some 49) ?_
            (try simp only [Act.put, p0, p1, p2])
            refine tk 35 (some 50) ?_
            (try simp only [Act.put, p0, p1, p2])
            refine wpAnyH_done (by kernel_rfl) (NoPanic.normal ?_) _
            have K1 : sat w _ _ := (by first | exact K.out | exact K.out.drew)
            clear K
            (try clear a0)
            (try clear l0)
            have K := Lib.hid K1
            clear K1
            have a0 := K.out.rd 0 rfl
            have l0 := K.out.ltp 0 rfl
            go_wp2
            go_loopg [55, 5] 0 (fun gk i ow w' => ∃ (k : Nat) (own : Int), k + gk = 0 ∧ i = .int .i64 k ∧ ow = .int .i64 own ∧ OwnI l d.who k own ∧ (l.take k).all (lokO d) = true ∧ sat w w' [deedA gd d])
            case atStart => exact ⟨0, -1, by simp, rfl, rfl, OwnI.start _ _, rfl, K.out⟩
            case round =>
              obtain ⟨k, own, hk, rfl, rfl, hO, hA, hs⟩ := hrel
              clear K a0 l0
              have K := Lib.hid hs
              clear hs
              have a0 := K.out.rd 0 rfl
              have l0 := K.out.ltp 0 rfl
              have HO := Lib.hid hO
              have HA := Lib.hid hA
              have HK := Lib.hid hk
              clear hO hA
              by_cases hlt : k < 0
              · exact absurd hlt (by omega)
              · have hkl : k = 0 := by omega
                subst hkl
                have d0 : decide (0 < 0) = false := by simp
                clear hlt hk
                rcases HO.out with ⟨rfl, hno⟩ | ⟨j, hj, hjk, rfl, hso⟩
                · have E7 := Lib.hid (show lrightM [] l = lrightM (l.take (0 + 1)) (l.drop (0 + 1)) from by
                    rw [E2.out, show lokD pre d = true from by unfold lokD okOwn; rw [EH.out, ← HPRE.out, HA.out, hno]; rfl, Bool.true_and])
                  clear hno
                  go_wp2_with fail
                  refine wp_region_noPanic ?_
                  refine wp_region_held_drew (S := (fun w' => (∀ j, w'.cell? ⟨gd, j, none⟩ = d.v[j]?))) (by kernel_rfl) ?_ (fun hHeld => ?_)
                  · ((try dsimp only); (first | exact K.out.rd 0 rfl | exact K.out.drew.rd 0 rfl))
                  refine tk 0 (some 91) ?_
                  (try simp only [Act.put, p0, p1, p2])
                  refine tk 1 (some 92) ?_
                  (try simp only [Act.put, p0, p1, p2])
                  refine tk 2 (some 93) ?_
                  (try simp only [Act.put, p0, p1, p2])
                  refine sk 3 (some 94) ?_
                  (try simp only [Act.put, p0, p1, p2])
                  refine sk 4 (some 95) ?_
                  (try simp only [Act.put, p0, p1, p2])
                  refine sk 5 (some 96) ?_
                  (try simp only [Act.put, p0, p1, p2])
                  refine sk 6 (some 97) ?_
                  (try simp only [Act.put, p0, p1, p2])
                  refine sk 7 (some 98) ?_
                  (try simp only [Act.put, p0, p1, p2])
                  refine sk 8 (some 99) ?_
                  (try simp only [Act.put, p0, p1, p2])
                  refine sk 9 (some 100) ?_
                  (try simp only [Act.put, p0, p1, p2])
                  refine tk 10 (some 101) ?_
                  (try simp only [Act.put, p0, p1, p2])
                  refine wpAnyH_done (by kernel_rfl) (NoPanic.normal ?_) _
                  go_wp2
                  go_roundg gk'
                  case measure => omega
                  case rel => exact ⟨0 + 1, by have := HN.out; omega, by simp, E7.out, (show sat w _ _ from by first | exact K.out | exact K.out.drew).below⟩
                · exact absurd hjk (Nat.not_lt_zero _)
      · obtain ⟨m, hm⟩ : ∃ m, n = m + 1 := ⟨n - 1, by omega⟩
        have hml : m < l.length := by omega
        have hlf := HLF.out m hm hml
        have hmn := HNE.out (by omega)
        subst hm
        have tn : decide (((m + 1 : Nat) : Int) > 0) = true := by simp
        have im : IntKind.i64.wrap (((m + 1 : Nat) : Int) - 1) = (m : Int) := by rw [wi (by omega) (by omega)]; omega
        have im2 : ((m + 1 : Nat) : Int) - 1 = (m : Int) := by omega
        have im3 : IntKind.i64.wrap (m : Int) = (m : Int) := wi (by omega) (by omega)
        obtain ⟨b_2, o_2, he_, hb0, hx0⟩ := H.out m hml
        simp only [Option.some.injEq, Addr.mk.injEq, and_true] at he_
        obtain ⟨rfl, rfl⟩ := he_
        have HP := Lib.hid (And.intro hb0 (hx0 5 _ rfl))
        have m0 : (0 : Int) ≤ (m : Int) := by omega
        have m1 : (m : Int) < (l.length : Int) := by omega
        clear hb0 hx0
        generalize l[m].start = ps at *
        by_cases qp : d.start ≤ ps
        · have tp : decide (d.start ≤ ps) = true := by simpa using qp
          have E3 := Lib.hid (show lrightM [] l = false from by rw [E2.out, show lokD pre d = false from by unfold lokD lokHead; rw [show decide (pre = []) = false by simpa using hmn, hlf, show decide (ps < d.start) = false by simp; omega]; simp]; rfl)
          clear qp hlf hmn
          go_wp2_with (first | ((with_reducible refine at_alloc ?_); refine st_allocf K.out (fun _ => rfl) ?_; intro gd w1 K1; have K2 := Lib.hid K1; clear K1 K; (try clear a0); (try clear l0); (try clear a1); (try clear l1); (try clear a2); (try clear l2); have K := K2; clear K2; have a0 := K.out.rd 0 rfl; have l0 := K.out.ltp 0 rfl) | ((with_reducible refine at_store ?_); refine st_store 0 K.out rfl rfl rfl rfl ?_ ?_ ?_ ?_; (· kernel_rfl); (· simp); (· simp [Value.oneCell']); intro w1 K1; simp only [List.set, putL] at K1; have K2 := Lib.hid K1; clear K1 K; (try clear a0); (try clear l0); (try clear a1); (try clear l1); (try clear a2); (try clear l2); have K := K2; clear K2; have a0 := K.out.rd 0 rfl; have l0 := K.out.ltp 0 rfl))
          refine wp_region_noPanic ?_
          refine wp_region_held_drew (S := (fun w' => (∀ j, w'.cell? ⟨gd, j, none⟩ = d.v[j]?) ∧ w'.cell? ⟨b, off + m * 11 + 5, none⟩ = some (.int .i64 ps))) (by kernel_rfl) ?_ (fun hHeld => ?_)
          · ((try dsimp only); (first | exact ⟨K.out.rd 0 rfl, (K.out.below.cell (p := ⟨b, off + m * 11 + 5, none⟩) HP.out.1).trans HP.out.2⟩ | exact ⟨K.out.drew.rd 0 rfl, (K.out.drew.below.cell (p := ⟨b, off + m * 11 + 5, none⟩) HP.out.1).trans HP.out.2⟩))
          refine tk 0 (some 15) ?_
          (try simp only [Act.put, p0, p1, p2])
          refine tk 1 (some 16) ?_
          (try simp only [Act.put, p0, p1, p2])
          refine tk 2 (some 17) ?_
          (try simp only [Act.put, p0, p1, p2])
          refine tk 3 (some 18) ?_
          (try simp only [Act.put, p0, p1, p2])
          refine tk 4 (some 19) ?_
          (try simp only [Act.put, p0, p1, p2])
          refine tk 5 (some 20) ?_
          (try simp only [Act.put, p0, p1, p2])
          refine tk 6 (some 21) ?_
          (try simp only [Act.put, p0, p1, p2])
          refine tk 7 (some 22) ?_
          (try simp only [Act.put, p0, p1, p2])
          refine tk 8 (some 23) ?_
          (try simp only [Act.put, p0, p1, p2])
          refine tk 9 (some 24) ?_
          (try simp only [Act.put, p0, p1, p2])
          refine tk 10 (some 25) ?_
          (try simp only [Act.put, p0, p1, p2])
          refine tk 11 (some 26) ?_
          (try simp only [Act.put, p0, p1, p2])
          refine tk 12 (some 27) ?_
          (try simp only [Act.put, p0, p1, p2])
          refine tk 13 (some 28) ?_
          (try simp only [Act.put, p0, p1, p2])
          refine tk 14 (some 29) ?_
          (try simp only [Act.put, p0, p1, p2])
          refine tk 15 (some 30) ?_
          (try simp only [Act.put, p0, p1, p2])
          refine tk 16 (some 31) ?_
          (try simp only [Act.put, p0, p1, p2])
          refine tk 17 (some 32) ?_
          (try simp only [Act.put, p0, p1, p2])
          refine tk 18 (some 33) ?_
          (try simp only [Act.put, p0, p1, p2])
          refine sk 19 (some 34) ?_
          (try simp only [Act.put, p0, p1, p2])
          refine sk 20 (some 35) ?_
          (try simp only [Act.put, p0, p1, p2])
          refine sk 21 (some 36) ?_
          (try simp only [Act.put, p0, p1, p2])
          refine sk 22 (some 37) ?_
          (try simp only [Act.put, p0, p1, p2])
          refine sk 23 (some 38) ?_
          (try simp only [Act.put, p0, p1, p2])
          refine sk 24 (some 39) ?_
          (try simp only [Act.put, p0, p1, p2])
          refine sk 25 (some 40) ?_
          (try simp only [Act.put, p0, p1, p2])
          refine sk 26 (some 41) ?_
          (try simp only [Act.put, p0, p1, p2])
          refine sk 27 (some 42) ?_
          (try simp only [Act.put, p0, p1, p2])
          refine sk 28 (some 43) ?_
          (try simp only [Act.put, p0, p1, p2])
          refine tk 29 (some 44) ?_
          (try simp only [Act.put, p0, p1, p2])
          refine tk 30 (some 45) ?_
          (try simp only [Act.put, p0, p1, p2])
          refine sk 31 (some 46) ?_
          (try simp only [Act.put, p0, p1, p2])
          refine sk 32 (some 47) ?_
          (try simp only [Act.put, p0, p1, p2])
          refine sk 33 (some 48) ?_
          (try simp only [Act.put, p0, p1, p2])
          refine sk 34 (some 49) ?_
          (try simp only [Act.put, p0, p1, p2])
          refine tk 35 (some 50) ?_
          (try simp only [Act.put, p0, p1, p2])
          refine wpAnyH_done (by kernel_rfl) (NoPanic.normal ?_) _
          go_wp2
          go_ret
          exact ⟨ret_b E3.out.symm, (show sat w _ _ from by first | exact K.out | exact K.out.drew).below⟩
        · have tp : decide (d.start ≤ ps) = false := by simpa using qp
          have EP := Lib.hid (show (decide (pre = []) || decide (lastFrom pre < d.start)) = true from by rw [hlf]; simp; right; omega)
          clear qp hlf hmn
          by_cases q2 : 0 ≤ d.stop ∧ d.stop ≤ d.start
          · obtain ⟨q2, q3⟩ := q2
            have t2 : decide (d.stop ≥ 0) = true := by simpa using q2
            have t3 : decide (d.stop ≤ d.start) = true := by simpa using q3
            have E3 := Lib.hid (show lrightM [] l = false from by rw [E2.out, show lokD pre d = false from by unfold lokD lokHead; rw [show decide (d.stop < 0) = false by simp; omega, show decide (d.start < d.stop) = false by simp; omega]; simp]; rfl)
            clear q2 q3
            go_wp2_with (first | ((with_reducible refine at_alloc ?_); refine st_allocf K.out (fun _ => rfl) ?_; intro gd w1 K1; have K2 := Lib.hid K1; clear K1 K; (try clear a0); (try clear l0); (try clear a1); (try clear l1); (try clear a2); (try clear l2); have K := K2; clear K2; have a0 := K.out.rd 0 rfl; have l0 := K.out.ltp 0 rfl) | ((with_reducible refine at_store ?_); refine st_store 0 K.out rfl rfl rfl rfl ?_ ?_ ?_ ?_; (· kernel_rfl); (· simp); (· simp [Value.oneCell']); intro w1 K1; simp only [List.set, putL] at K1; have K2 := Lib.hid K1; clear K1 K; (try clear a0); (try clear l0); (try clear a1); (try clear l1); (try clear a2); (try clear l2); have K := K2; clear K2; have a0 := K.out.rd 0 rfl; have l0 := K.out.ltp 0 rfl))
            refine wp_region_noPanic ?_
            refine wp_region_held_drew (S := (fun w' => (∀ j, w'.cell? ⟨gd, j, none⟩ = d.v[j]?) ∧ w'.cell? ⟨b, off + m * 11 + 5, none⟩ = some (.int .i64 ps))) (by kernel_rfl) ?_ (fun hHeld => ?_)
            · ((try dsimp only); (first | exact ⟨K.out.rd 0 rfl, (K.out.below.cell (p := ⟨b, off + m * 11 + 5, none⟩) HP.out.1).trans HP.out.2⟩ | exact ⟨K.out.drew.rd 0 rfl, (K.out.drew.below.cell (p := ⟨b, off + m * 11 + 5, none⟩) HP.out.1).trans HP.out.2⟩))
            refine tk 0 (some 15) ?_
            (try simp only [Act.put, p0, p1, p2])
            refine tk 1 (some 16) ?_
            (try simp only [Act.put, p0, p1, p2])
            refine tk 2 (some 17) ?_
            (try simp only [Act.put, p0, p1, p2])
            refine tk 3 (some 18) ?_
            (try simp only [Act.put, p0, p1, p2])
            refine tk 4 (some 19) ?_
            (try simp only [Act.put, p0, p1, p2])
            refine tk 5 (some 20) ?_
            (try simp only [Act.put, p0, p1, p2])
            refine tk 6 (some 21) ?_
            (try simp only [Act.put, p0, p1, p2])
            refine tk 7 (some 22) ?_
            (try simp only [Act.put, p0, p1, p2])
            refine tk 8 (some 23) ?_
            (try simp only [Act.put, p0, p1, p2])
            refine tk 9 (some 24) ?_
            (try simp only [Act.put, p0, p1, p2])
            refine tk 10 (some 25) ?_
            (try simp only [Act.put, p0, p1, p2])
            refine tk 11 (some 26) ?_
            (try simp only [Act.put, p0, p1, p2])
            refine tk 12 (some 27) ?_
            (try simp only [Act.put, p0, p1, p2])
            refine tk 13 (some 28) ?_
            (try simp only [Act.put, p0, p1, p2])
            refine tk 14 (some 29) ?_
            (try simp only [Act.put, p0, p1, p2])
            refine tk 15 (some 30) ?_
            (try simp only [Act.put, p0, p1, p2])
            refine tk 16 (some 31) ?_
            (try simp only [Act.put, p0, p1, p2])
            refine tk 17 (some 32) ?_
            (try simp only [Act.put, p0, p1, p2])
            refine tk 18 (some 33) ?_
            (try simp only [Act.put, p0, p1, p2])
            refine tk 19 (some 34) ?_
            (try simp only [Act.put, p0, p1, p2])
            refine tk 20 (some 35) ?_
            (try simp only [Act.put, p0, p1, p2])
            refine tk 21 (some 36) ?_
            (try simp only [Act.put, p0, p1, p2])
            refine tk 22 (some 37) ?_
            (try simp only [Act.put, p0, p1, p2])
            refine tk 23 (some 38) ?_
            (try simp only [Act.put, p0, p1, p2])
            refine tk 24 (some 39) ?_
            (try simp only [Act.put, p0, p1, p2])
            refine tk 25 (some 40) ?_
            (try simp only [Act.put, p0, p1, p2])
            refine tk 26 (some 41) ?_
            (try simp only [Act.put, p0, p1, p2])
            refine tk 27 (some 42) ?_
            (try simp only [Act.put, p0, p1, p2])
            refine tk 28 (some 43) ?_
            (try simp only [Act.put, p0, p1, p2])
            refine tk 29 (some 44) ?_
            (try simp only [Act.put, p0, p1, p2])
            refine tk 30 (some 45) ?_
            (try simp only [Act.put, p0, p1, p2])
            refine sk 31 (some 46) ?_
            (try simp only [Act.put, p0, p1, p2])
            refine sk 32 (some 47) ?_
            (try simp only [Act.put, p0, p1, p2])
            refine sk 33 (some 48) ?_
            (try simp only [Act.put, p0, p1, p2])
            refine sk 34 (some 49) ?_
            (try simp only [Act.put, p0, p1, p2])
            refine tk 35 (some 50) ?_
            (try simp only [Act.put, p0, p1, p2])
            refine wpAnyH_done (by kernel_rfl) (NoPanic.normal ?_) _
            go_wp2
            go_ret
            exact ⟨ret_b E3.out.symm, (show sat w _ _ from by first | exact K.out | exact K.out.drew).below⟩
          cases q4 : d.call.right with
          | false =>
            have E3 := Lib.hid (show lrightM [] l = false from by rw [E2.out, show lokD pre d = false from by unfold lokD lokHead; rw [q4]; simp]; rfl)
            rw [q4] at CR
            by_cases q5 : 0 ≤ d.stop
            · have t2 : decide (d.stop ≥ 0) = true := by simpa using q5
              have t3 : decide (d.stop ≤ d.start) = false := by simp; omega
              clear q2 q5
              go_wp2_with (first | ((with_reducible refine at_alloc ?_); refine st_allocf K.out (fun _ => rfl) ?_; intro gd w1 K1; have K2 := Lib.hid K1; clear K1 K; (try clear a0); (try clear l0); (try clear a1); (try clear l1); (try clear a2); (try clear l2); have K := K2; clear K2; have a0 := K.out.rd 0 rfl; have l0 := K.out.ltp 0 rfl) | ((with_reducible refine at_store ?_); refine st_store 0 K.out rfl rfl rfl rfl ?_ ?_ ?_ ?_; (· kernel_rfl); (· simp); (· simp [Value.oneCell']); intro w1 K1; simp only [List.set, putL] at K1; have K2 := Lib.hid K1; clear K1 K; (try clear a0); (try clear l0); (try clear a1); (try clear l1); (try clear a2); (try clear l2); have K := K2; clear K2; have a0 := K.out.rd 0 rfl; have l0 := K.out.ltp 0 rfl))
              refine wp_region_noPanic ?_
              refine wp_region_held_drew (S := (fun w' => (∀ j, w'.cell? ⟨gd, j, none⟩ = d.v[j]?) ∧ w'.cell? ⟨b, off + m * 11 + 5, none⟩ = some (.int .i64 ps))) (by kernel_rfl) ?_ (fun hHeld => ?_)
              · ((try dsimp only); (first | exact ⟨K.out.rd 0 rfl, (K.out.below.cell (p := ⟨b, off + m * 11 + 5, none⟩) HP.out.1).trans HP.out.2⟩ | exact ⟨K.out.drew.rd 0 rfl, (K.out.drew.below.cell (p := ⟨b, off + m * 11 + 5, none⟩) HP.out.1).trans HP.out.2⟩))
              refine tk 0 (some 15) ?_
              (try simp only [Act.put, p0, p1, p2])
              refine tk 1 (some 16) ?_
              (try simp only [Act.put, p0, p1, p2])
              refine tk 2 (some 17) ?_
              (try simp only [Act.put, p0, p1, p2])
              refine tk 3 (some 18) ?_
              (try simp only [Act.put, p0, p1, p2])
              refine tk 4 (some 19) ?_
              (try simp only [Act.put, p0, p1, p2])
              refine tk 5 (some 20) ?_
              (try simp only [Act.put, p0, p1, p2])
              refine tk 6 (some 21) ?_
              (try simp only [Act.put, p0, p1, p2])
              refine tk 7 (some 22) ?_
              (try simp only [Act.put, p0, p1, p2])
              refine tk 8 (some 23) ?_
              (try simp only [Act.put, p0, p1, p2])
              refine tk 9 (some 24) ?_
              (try simp only [Act.put, p0, p1, p2])
              refine tk 10 (some 25) ?_
              (try simp only [Act.put, p0, p1, p2])
              refine tk 11 (some 26) ?_
              (try simp only [Act.put, p0, p1, p2])
              refine tk 12 (some 27) ?_
              (try simp only [Act.put, p0, p1, p2])
              refine tk 13 (some 28) ?_
              (try simp only [Act.put, p0, p1, p2])
              refine tk 14 (some 29) ?_
              (try simp only [Act.put, p0, p1, p2])
              refine tk 15 (some 30) ?_
              (try simp only [Act.put, p0, p1, p2])
              refine tk 16 (some 31) ?_
              (try simp only [Act.put, p0, p1, p2])
              refine tk 17 (some 32) ?_
              (try simp only [Act.put, p0, p1, p2])
              refine tk 18 (some 33) ?_
              (try simp only [Act.put, p0, p1, p2])
              refine tk 19 (some 34) ?_
              (try simp only [Act.put, p0, p1, p2])
              refine tk 20 (some 35) ?_
              (try simp only [Act.put, p0, p1, p2])
              refine tk 21 (some 36) ?_
              (try simp only [Act.put, p0, p1, p2])
              refine tk 22 (some 37) ?_
              (try simp only [Act.put, p0, p1, p2])
              refine tk 23 (some 38) ?_
              (try simp only [Act.put, p0, p1, p2])
              refine tk 24 (some 39) ?_
              (try simp only [Act.put, p0, p1, p2])
              refine tk 25 (some 40) ?_
              (try simp only [Act.put, p0, p1, p2])
              refine tk 26 (some 41) ?_
              (try simp only [Act.put, p0, p1, p2])
              refine tk 27 (some 42) ?_
              (try simp only [Act.put, p0, p1, p2])
              refine tk 28 (some 43) ?_
              (try simp only [Act.put, p0, p1, p2])
              refine tk 29 (some 44) ?_
              (try simp only [Act.put, p0, p1, p2])
              refine tk 30 (some 45) ?_
              (try simp only [Act.put, p0, p1, p2])
              refine tk 31 (some 46) ?_
              (try simp only [Act.put, p0, p1, p2])
              refine tk 32 (some 47) ?_
              (try simp only [Act.put, p0, p1, p2])
              refine wpAnyH_ready (rs := [33]) (by kernel_rfl) (by simp) ?_
              refine AllReadyH.cons (o := _) rfl (fun kC hkC => ?_) AllReadyH.nil
              go_simp
              (first | (go_at_call 68; (with_reducible refine ((CR _).out).mono ?_); rintro e w1 ⟨rfl, hb⟩; have K1 := sat.grown (show sat _ _ _ from by first | exact K.out | exact K.out.drew) hb; clear hb; have K2 := Lib.hid K1; clear K1 K; (try clear a0); (try clear l0); (try clear f0); (try clear a1); (try clear l1); (try clear f1); (try clear a2); (try clear l2); (try clear f2); (try clear a3); (try clear l3); (try clear f3); (try clear a4); (try clear l4); (try clear f4); (try clear a5); (try clear l5); (try clear f5); have K := K2; clear K2; (try have a0 := K.out.rd 0 rfl); (try have l0 := K.out.ltp 0 rfl); (try have f0 := K.out.fr 0 rfl); (try have a1 := K.out.rd 1 rfl); (try have l1 := K.out.ltp 1 rfl); (try have f1 := K.out.fr 1 rfl); (try have a2 := K.out.rd 2 rfl); (try have l2 := K.out.ltp 2 rfl); (try have f2 := K.out.fr 2 rfl); (try have a3 := K.out.rd 3 rfl); (try have l3 := K.out.ltp 3 rfl); (try have f3 := K.out.fr 3 rfl)))
              refine shown hkC _ _ (by (try dsimp only); (first | exact ⟨K.out.rd 0 rfl, (K.out.below.cell (p := ⟨b, off + m * 11 + 5, none⟩) HP.out.1).trans HP.out.2⟩ | exact ⟨K.out.drew.rd 0 rfl, (K.out.drew.below.cell (p := ⟨b, off + m * 11 + 5, none⟩) HP.out.1).trans HP.out.2⟩)) ?_; clear hkC kC hHeld; intro hHeld
              (try simp only [Act.put, p0, p1, p2])
              refine tk 34 (some 49) ?_
              (try simp only [Act.put, p0, p1, p2])
              refine tk 35 (some 50) ?_
              (try simp only [Act.put, p0, p1, p2])
              refine wpAnyH_done (by kernel_rfl) (NoPanic.normal ?_) _
              go_wp2
              go_ret
              exact ⟨ret_b E3.out.symm, (show sat w _ _ from by first | exact K.out | exact K.out.drew).below⟩
            · have t2 : decide (d.stop ≥ 0) = false := by simpa using q5
              clear q2 q5
              go_wp2_with (first | ((with_reducible refine at_alloc ?_); refine st_allocf K.out (fun _ => rfl) ?_; intro gd w1 K1; have K2 := Lib.hid K1; clear K1 K; (try clear a0); (try clear l0); (try clear a1); (try clear l1); (try clear a2); (try clear l2); have K := K2; clear K2; have a0 := K.out.rd 0 rfl; have l0 := K.out.ltp 0 rfl) | ((with_reducible refine at_store ?_); refine st_store 0 K.out rfl rfl rfl rfl ?_ ?_ ?_ ?_; (· kernel_rfl); (· simp); (· simp [Value.oneCell']); intro w1 K1; simp only [List.set, putL] at K1; have K2 := Lib.hid K1; clear K1 K; (try clear a0); (try clear l0); (try clear a1); (try clear l1); (try clear a2); (try clear l2); have K := K2; clear K2; have a0 := K.out.rd 0 rfl; have l0 := K.out.ltp 0 rfl))
              refine wp_region_noPanic ?_
              refine wp_region_held_drew (S := (fun w' => (∀ j, w'.cell? ⟨gd, j, none⟩ = d.v[j]?) ∧ w'.cell? ⟨b, off + m * 11 + 5, none⟩ = some (.int .i64 ps))) (by kernel_rfl) ?_ (fun hHeld => ?_)
              · ((try dsimp only); (first | exact ⟨K.out.rd 0 rfl, (K.out.below.cell (p := ⟨b, off + m * 11 + 5, none⟩) HP.out.1).trans HP.out.2⟩ | exact ⟨K.out.drew.rd 0 rfl, (K.out.drew.below.cell (p := ⟨b, off + m * 11 + 5, none⟩) HP.out.1).trans HP.out.2⟩))
              refine tk 0 (some 15) ?_
              (try simp only [Act.put, p0, p1, p2])
              refine tk 1 (some 16) ?_
              (try simp only [Act.put, p0, p1, p2])
              refine tk 2 (some 17) ?_
              (try simp only [Act.put, p0, p1, p2])
              refine tk 3 (some 18) ?_
              (try simp only [Act.put, p0, p1, p2])
              refine tk 4 (some 19) ?_
              (try simp only [Act.put, p0, p1, p2])
              refine tk 5 (some 20) ?_
              (try simp only [Act.put, p0, p1, p2])
              refine tk 6 (some 21) ?_
              (try simp only [Act.put, p0, p1, p2])
              refine tk 7 (some 22) ?_
              (try simp only [Act.put, p0, p1, p2])
              refine tk 8 (some 23) ?_
              (try simp only [Act.put, p0, p1, p2])
              refine tk 9 (some 24) ?_
              (try simp only [Act.put, p0, p1, p2])
              refine tk 10 (some 25) ?_
              (try simp only [Act.put, p0, p1, p2])
              refine tk 11 (some 26) ?_
              (try simp only [Act.put, p0, p1, p2])
              refine tk 12 (some 27) ?_
              (try simp only [Act.put, p0, p1, p2])
              refine tk 13 (some 28) ?_
              (try simp only [Act.put, p0, p1, p2])
              refine tk 14 (some 29) ?_
              (try simp only [Act.put, p0, p1, p2])
              refine tk 15 (some 30) ?_
              (try simp only [Act.put, p0, p1, p2])
              refine tk 16 (some 31) ?_
              (try simp only [Act.put, p0, p1, p2])
              refine tk 17 (some 32) ?_
              (try simp only [Act.put, p0, p1, p2])
              refine tk 18 (some 33) ?_
              (try simp only [Act.put, p0, p1, p2])
              refine tk 19 (some 34) ?_
              (try simp only [Act.put, p0, p1, p2])
              refine tk 20 (some 35) ?_
              (try simp only [Act.put, p0, p1, p2])
              refine tk 21 (some 36) ?_
              (try simp only [Act.put, p0, p1, p2])
              refine tk 22 (some 37) ?_
              (try simp only [Act.put, p0, p1, p2])
              refine sk 23 (some 38) ?_
              (try simp only [Act.put, p0, p1, p2])
              refine sk 24 (some 39) ?_
              (try simp only [Act.put, p0, p1, p2])
              refine sk 25 (some 40) ?_
              (try simp only [Act.put, p0, p1, p2])
              refine sk 26 (some 41) ?_
              (try simp only [Act.put, p0, p1, p2])
              refine sk 27 (some 42) ?_
              (try simp only [Act.put, p0, p1, p2])
              refine tk 28 (some 43) ?_
              (try simp only [Act.put, p0, p1, p2])
              refine tk 29 (some 44) ?_
              (try simp only [Act.put, p0, p1, p2])
              refine tk 30 (some 45) ?_
              (try simp only [Act.put, p0, p1, p2])
              refine tk 31 (some 46) ?_
              (try simp only [Act.put, p0, p1, p2])
              refine tk 32 (some 47) ?_
              (try simp only [Act.put, p0, p1, p2])
              refine wpAnyH_ready (rs := [33]) (by kernel_rfl) (by simp) ?_
              refine AllReadyH.cons (o := _) rfl (fun kC hkC => ?_) AllReadyH.nil
              go_simp
              (first | (go_at_call 68; (with_reducible refine ((CR _).out).mono ?_); rintro e w1 ⟨rfl, hb⟩; have K1 := sat.grown (show sat _ _ _ from by first | exact K.out | exact K.out.drew) hb; clear hb; have K2 := Lib.hid K1; clear K1 K; (try clear a0); (try clear l0); (try clear f0); (try clear a1); (try clear l1); (try clear f1); (try clear a2); (try clear l2); (try clear f2); (try clear a3); (try clear l3); (try clear f3); (try clear a4); (try clear l4); (try clear f4); (try clear a5); (try clear l5); (try clear f5); have K := K2; clear K2; (try have a0 := K.out.rd 0 rfl); (try have l0 := K.out.ltp 0 rfl); (try have f0 := K.out.fr 0 rfl); (try have a1 := K.out.rd 1 rfl); (try have l1 := K.out.ltp 1 rfl); (try have f1 := K.out.fr 1 rfl); (try have a2 := K.out.rd 2 rfl); (try have l2 := K.out.ltp 2 rfl); (try have f2 := K.out.fr 2 rfl); (try have a3 := K.out.rd 3 rfl); (try have l3 := K.out.ltp 3 rfl); (try have f3 := K.out.fr 3 rfl)))
              refine shown hkC _ _ (by (try dsimp only); (first | exact ⟨K.out.rd 0 rfl, (K.out.below.cell (p := ⟨b, off + m * 11 + 5, none⟩) HP.out.1).trans HP.out.2⟩ | exact ⟨K.out.drew.rd 0 rfl, (K.out.drew.below.cell (p := ⟨b, off + m * 11 + 5, none⟩) HP.out.1).trans HP.out.2⟩)) ?_; clear hkC kC hHeld; intro hHeld
              (try simp only [Act.put, p0, p1, p2])
              refine tk 34 (some 49) ?_
              (try simp only [Act.put, p0, p1, p2])
              refine tk 35 (some 50) ?_
              (try simp only [Act.put, p0, p1, p2])
              refine wpAnyH_done (by kernel_rfl) (NoPanic.normal ?_) _
              go_wp2
              go_ret
              exact ⟨ret_b E3.out.symm, (show sat w _ _ from by first | exact K.out | exact K.out.drew).below⟩
          | true =>
            rw [q4] at CR
            by_cases q5 : 0 ≤ d.stop
            · have t2 : decide (d.stop ≥ 0) = true := by simpa using q5
              have t3 : decide (d.stop ≤ d.start) = false := by simp; omega
              have EH := Lib.hid (show lokHead pre d = true from by unfold lokHead; rw [EZ.out, EP.out, q4, show decide (d.start < d.stop) = true by simp; omega]; simp)
              clear q2 q5
              go_wp2_with (first | ((with_reducible refine at_alloc ?_); refine st_allocf K.out (fun _ => rfl) ?_; intro gd w1 K1; have K2 := Lib.hid K1; clear K1 K; (try clear a0); (try clear l0); (try clear a1); (try clear l1); (try clear a2); (try clear l2); have K := K2; clear K2; have a0 := K.out.rd 0 rfl; have l0 := K.out.ltp 0 rfl) | ((with_reducible refine at_store ?_); refine st_store 0 K.out rfl rfl rfl rfl ?_ ?_ ?_ ?_; (· kernel_rfl); (· simp); (· simp [Value.oneCell']); intro w1 K1; simp only [List.set, putL] at K1; have K2 := Lib.hid K1; clear K1 K; (try clear a0); (try clear l0); (try clear a1); (try clear l1); (try clear a2); (try clear l2); have K := K2; clear K2; have a0 := K.out.rd 0 rfl; have l0 := K.out.ltp 0 rfl))
              refine wp_region_noPanic ?_
              refine wp_region_held_drew (S := (fun w' => (∀ j, w'.cell? ⟨gd, j, none⟩ = d.v[j]?) ∧ w'.cell? ⟨b, off + m * 11 + 5, none⟩ = some (.int .i64 ps))) (by kernel_rfl) ?_ (fun hHeld => ?_)
              · ((try dsimp only); (first | exact ⟨K.out.rd 0 rfl, (K.out.below.cell (p := ⟨b, off + m * 11 + 5, none⟩) HP.out.1).trans HP.out.2⟩ | exact ⟨K.out.drew.rd 0 rfl, (K.out.drew.below.cell (p := ⟨b, off + m * 11 + 5, none⟩) HP.out.1).trans HP.out.2⟩))
              refine tk 0 (some 15) ?_
              (try simp only [Act.put, p0, p1, p2])
              refine tk 1 (some 16) ?_
              (try simp only [Act.put, p0, p1, p2])
              refine tk 2 (some 17) ?_
              (try simp only [Act.put, p0, p1, p2])
              refine tk 3 (some 18) ?_
              (try simp only [Act.put, p0, p1, p2])
              refine tk 4 (some 19) ?_
              (try simp only [Act.put, p0, p1, p2])
              refine tk 5 (some 20) ?_
              (try simp only [Act.put, p0, p1, p2])
              refine tk 6 (some 21) ?_
              (try simp only [Act.put, p0, p1, p2])
              refine tk 7 (some 22) ?_
              (try simp only [Act.put, p0, p1, p2])
              refine tk 8 (some 23) ?_
              (try simp only [Act.put, p0, p1, p2])
              refine tk 9 (some 24) ?_
              (try simp only [Act.put, p0, p1, p2])
              refine tk 10 (some 25) ?_
              (try simp only [Act.put, p0, p1, p2])
              refine tk 11 (some 26) ?_
              (try simp only [Act.put, p0, p1, p2])
              refine tk 12 (some 27) ?_
              (try simp only [Act.put, p0, p1, p2])
              refine tk 13 (some 28) ?_
              (try simp only [Act.put, p0, p1, p2])
              refine tk 14 (some 29) ?_
              (try simp only [Act.put, p0, p1, p2])
              refine tk 15 (some 30) ?_
              (try simp only [Act.put, p0, p1, p2])
              refine tk 16 (some 31) ?_
              (try simp only [Act.put, p0, p1, p2])
              refine tk 17 (some 32) ?_
              (try simp only [Act.put, p0, p1, p2])
              refine tk 18 (some 33) ?_
              (try simp only [Act.put, p0, p1, p2])
              refine tk 19 (some 34) ?_
              (try simp only [Act.put, p0, p1, p2])
              refine tk 20 (some 35) ?_
              (try simp only [Act.put, p0, p1, p2])
              refine tk 21 (some 36) ?_
              (try simp only [Act.put, p0, p1, p2])
              refine tk 22 (some 37) ?_
              (try simp only [Act.put, p0, p1, p2])
              refine tk 23 (some 38) ?_
              (try simp only [Act.put, p0, p1, p2])
              refine tk 24 (some 39) ?_
              (try simp only [Act.put, p0, p1, p2])
              refine tk 25 (some 40) ?_
              (try simp only [Act.put, p0, p1, p2])
              refine tk 26 (some 41) ?_
              (try simp only [Act.put, p0, p1, p2])
              refine tk 27 (some 42) ?_
              (try simp only [Act.put, p0, p1, p2])
              refine tk 28 (some 43) ?_
              (try simp only [Act.put, p0, p1, p2])
              refine tk 29 (some 44) ?_
              (try simp only [Act.put, p0, p1, p2])
              refine tk 30 (some 45) ?_
              (try simp only [Act.put, p0, p1, p2])
              refine tk 31 (some 46) ?_
              (try simp only [Act.put, p0, p1, p2])
              refine tk 32 (some 47) ?_
              (try simp only [Act.put, p0, p1, p2])
              refine wpAnyH_ready (rs := [33]) (by kernel_rfl) (by simp) ?_
              refine AllReadyH.cons (o := _) rfl (fun kC hkC => ?_) AllReadyH.nil
              go_simp
              (first | (go_at_call 68; (with_reducible refine ((CR _).out).mono ?_); rintro e w1 ⟨rfl, hb⟩; have K1 := sat.grown (show sat _ _ _ from by first | exact K.out | exact K.out.drew) hb; clear hb; have K2 := Lib.hid K1; clear K1 K; (try clear a0); (try clear l0); (try clear f0); (try clear a1); (try clear l1); (try clear f1); (try clear a2); (try clear l2); (try clear f2); (try clear a3); (try clear l3); (try clear f3); (try clear a4); (try clear l4); (try clear f4); (try clear a5); (try clear l5); (try clear f5); have K := K2; clear K2; (try have a0 := K.out.rd 0 rfl); (try have l0 := K.out.ltp 0 rfl); (try have f0 := K.out.fr 0 rfl); (try have a1 := K.out.rd 1 rfl); (try have l1 := K.out.ltp 1 rfl); (try have f1 := K.out.fr 1 rfl); (try have a2 := K.out.rd 2 rfl); (try have l2 := K.out.ltp 2 rfl); (try have f2 := K.out.fr 2 rfl); (try have a3 := K.out.rd 3 rfl); (try have l3 := K.out.ltp 3 rfl); (try have f3 := K.out.fr 3 rfl)))
              refine shown hkC _ _ (by (try dsimp only); (first | exact ⟨K.out.rd 0 rfl, (K.out.below.cell (p := ⟨b, off + m * 11 + 5, none⟩) HP.out.1).trans HP.out.2⟩ | exact ⟨K.out.drew.rd 0 rfl, (K.out.drew.below.cell (p := ⟨b, off + m * 11 + 5, none⟩) HP.out.1).trans HP.out.2⟩)) ?_; clear hkC kC hHeld; intro hHeld
              (try simp only [Act.put, p0, p1, p2])
              refine tk 34 (some 49) ?_
              (try simp only [Act.put, p0, p1, p2])
              refine tk 35 (some 50) ?_
              (try simp only [Act.put, p0, p1, p2])
              refine wpAnyH_done (by kernel_rfl) (NoPanic.normal ?_) _
              have K1 : sat w _ _ := (by first | exact K.out | exact K.out.drew)
              clear K
              (try clear a0)
              (try clear l0)
              have K := Lib.hid K1
              clear K1
              have a0 := K.out.rd 0 rfl
              have l0 := K.out.ltp 0 rfl
              go_wp2
              go_loopg [55, 5] (m + 1) (fun gk i ow w' => ∃ (k : Nat) (own : Int), k + gk = (m + 1) ∧ i = .int .i64 k ∧ ow = .int .i64 own ∧ OwnI l d.who k own ∧ (l.take k).all (lokO d) = true ∧ sat w w' [deedA gd d])
              case atStart => exact ⟨0, -1, by simp, rfl, rfl, OwnI.start _ _, rfl, K.out⟩
              case round =>
                obtain ⟨k, own, hk, rfl, rfl, hO, hA, hs⟩ := hrel
                clear K a0 l0
                have K := Lib.hid hs
                clear hs
                have a0 := K.out.rd 0 rfl
                have l0 := K.out.ltp 0 rfl
                have HO := Lib.hid hO
                have HA := Lib.hid hA
                have HK := Lib.hid hk
                clear hO hA
                by_cases hlt : k < (m + 1)
                · have d0 : decide (k < (m + 1)) = true := by simpa using hlt
                  have hltk : k < l.length := by omega
                  obtain ⟨b_2, o_2, he_, hb0, hx0⟩ := H.out k hltk
                  simp only [Option.some.injEq, Addr.mk.injEq, and_true] at he_
                  obtain ⟨rfl, rfl⟩ := he_
                  have hx : ∀ i u, (DeedM.v l[k])[i]? = some u → wr.cell? ⟨b, off + k * 11 + i, none⟩ = some u := fun i u hi => (K.out.below.cell (p := ⟨b, off + k * 11 + i, none⟩) hb0).trans (hx0 i u hi)
                  have y0 : wr.cell? ⟨b, off + k * 11, none⟩ = _ := hx 0 _ rfl
                  have y1 := hx 1 _ rfl; have y2 := hx 2 _ rfl; have y3 := hx 3 _ rfl; have y4 := hx 4 _ rfl; have y5 := hx 5 _ rfl; have y6 := hx 6 _ rfl; have y7 := hx 7 _ rfl; have y8 := hx 8 _ rfl; have y9 := hx 9 _ rfl; have y10 := hx 10 _ rfl
                  have E4 := Lib.hid (show (l.take (k + 1)).all (lokO d) = lokO d l[k] from by rw [List.take_succ_eq_append_getElem hltk, List.all_append, HA.out]; simp)
                  have E5 := Lib.hid (show OwnI l d.who (k + 1) (if l[k].who = d.who then (k : Int) else own) from HO.out.step hltk)
                  have E6 := Lib.hid (show lokO d l[k] = false → lrightM [] l = false from fun h => by
                    rw [E2.out, show lokD pre d = false from by
                      unfold lokD
                      rw [show pre.all (lokO d) = false from by
                        rw [← Bool.not_eq_true, List.all_eq_true]
                        intro hall
                        have := hall l[k] (by rw [← HPRE.out]; exact List.mem_take_iff_getElem.2 ⟨k, by omega, rfl⟩)
                        rw [h] at this; cases this]
                      simp]
                    rfl)
                  clear hx hx0 hb0 hk
                  unfold lokO at E4 E6
                  generalize l[k] = o at *
                  obtain ⟨gk2', rfl⟩ : ∃ g', gk = g' + 1 := ⟨gk - 1, by have := HK.out; omega⟩
                  by_cases qw : o.who = d.who
                  · have tw : (o.who == d.who) = true := by simpa using qw
                    rw [if_pos qw] at E5
                    clear qw
                    cases w1' : (d.start == o.stop) with
                    | true =>
                      have E6' := Lib.hid (E6.out (by rw [w1']; rfl))
                      go_wp2_with (first | ((with_reducible refine at_alloc ?_); refine st_allocf K.out (fun _ => rfl) ?_; intro go w1 K1; have K2 := Lib.hid K1; clear K1 K; (try clear a0); (try clear l0); (try clear a1); (try clear l1); (try clear a2); (try clear l2); have K := K2; clear K2; have a0 := K.out.rd 0 rfl; have l0 := K.out.ltp 0 rfl; have a1 := K.out.rd 1 rfl; have l1 := K.out.ltp 1 rfl) | ((with_reducible refine at_store ?_); refine st_store 0 K.out rfl rfl rfl rfl ?_ ?_ ?_ ?_; (· kernel_rfl); (· simp); (· simp [Value.oneCell']); intro w1 K1; simp only [List.set, putL] at K1; have K2 := Lib.hid K1; clear K1 K; (try clear a0); (try clear l0); (try clear a1); (try clear l1); (try clear a2); (try clear l2); have K := K2; clear K2; have a0 := K.out.rd 0 rfl; have l0 := K.out.ltp 0 rfl; have a1 := K.out.rd 1 rfl; have l1 := K.out.ltp 1 rfl))
                      go_ret
                      exact ⟨ret_b E6'.out.symm, K.out.below⟩
                    | false =>
                      have v3 : decide (0 ≤ d.stop) = true := t2
                      cases w3' : (d.stop == o.stop) with
                      | true =>
                        have E6' := Lib.hid (E6.out (by rw [w1', v3, w3']; rfl))
                        go_wp2_with (first | ((with_reducible refine at_alloc ?_); refine st_allocf K.out (fun _ => rfl) ?_; intro go w1 K1; have K2 := Lib.hid K1; clear K1 K; (try clear a0); (try clear l0); (try clear a1); (try clear l1); (try clear a2); (try clear l2); have K := K2; clear K2; have a0 := K.out.rd 0 rfl; have l0 := K.out.ltp 0 rfl; have a1 := K.out.rd 1 rfl; have l1 := K.out.ltp 1 rfl) | ((with_reducible refine at_store ?_); refine st_store 0 K.out rfl rfl rfl rfl ?_ ?_ ?_ ?_; (· kernel_rfl); (· simp); (· simp [Value.oneCell']); intro w1 K1; simp only [List.set, putL] at K1; have K2 := Lib.hid K1; clear K1 K; (try clear a0); (try clear l0); (try clear a1); (try clear l1); (try clear a2); (try clear l2); have K := K2; clear K2; have a0 := K.out.rd 0 rfl; have l0 := K.out.ltp 0 rfl; have a1 := K.out.rd 1 rfl; have l1 := K.out.ltp 1 rfl))
                        go_ret
                        exact ⟨ret_b E6'.out.symm, K.out.below⟩
                      | false =>
                        cases w4' : (d.stop == o.start) with
                        | true =>
                          have E6' := Lib.hid (E6.out (by rw [w1', v3, w3', w4']; rfl))
                          go_wp2_with (first | ((with_reducible refine at_alloc ?_); refine st_allocf K.out (fun _ => rfl) ?_; intro go w1 K1; have K2 := Lib.hid K1; clear K1 K; (try clear a0); (try clear l0); (try clear a1); (try clear l1); (try clear a2); (try clear l2); have K := K2; clear K2; have a0 := K.out.rd 0 rfl; have l0 := K.out.ltp 0 rfl; have a1 := K.out.rd 1 rfl; have l1 := K.out.ltp 1 rfl) | ((with_reducible refine at_store ?_); refine st_store 0 K.out rfl rfl rfl rfl ?_ ?_ ?_ ?_; (· kernel_rfl); (· simp); (· simp [Value.oneCell']); intro w1 K1; simp only [List.set, putL] at K1; have K2 := Lib.hid K1; clear K1 K; (try clear a0); (try clear l0); (try clear a1); (try clear l1); (try clear a2); (try clear l2); have K := K2; clear K2; have a0 := K.out.rd 0 rfl; have l0 := K.out.ltp 0 rfl; have a1 := K.out.rd 1 rfl; have l1 := K.out.ltp 1 rfl))
                          go_ret
                          exact ⟨ret_b E6'.out.symm, K.out.below⟩
                        | false =>
                          have E4' := Lib.hid (E4.out.trans (by rw [w1', v3, w3', w4']; try rfl))
                          go_wp2_with (first | ((with_reducible refine at_alloc ?_); refine st_allocf K.out (fun _ => rfl) ?_; intro go w1 K1; have K2 := Lib.hid K1; clear K1 K; (try clear a0); (try clear l0); (try clear a1); (try clear l1); (try clear a2); (try clear l2); have K := K2; clear K2; have a0 := K.out.rd 0 rfl; have l0 := K.out.ltp 0 rfl; have a1 := K.out.rd 1 rfl; have l1 := K.out.ltp 1 rfl) | ((with_reducible refine at_store ?_); refine st_store 0 K.out rfl rfl rfl rfl ?_ ?_ ?_ ?_; (· kernel_rfl); (· simp); (· simp [Value.oneCell']); intro w1 K1; simp only [List.set, putL] at K1; have K2 := Lib.hid K1; clear K1 K; (try clear a0); (try clear l0); (try clear a1); (try clear l1); (try clear a2); (try clear l2); have K := K2; clear K2; have a0 := K.out.rd 0 rfl; have l0 := K.out.ltp 0 rfl; have a1 := K.out.rd 1 rfl; have l1 := K.out.ltp 1 rfl))
                          go_roundg gk2'
                          case measure => omega
                          case rel => exact ⟨k + 1, _, by have := HK.out; omega, by simp, rfl, E5.out, E4'.out, K.out.drop⟩
                  · have tw : (o.who == d.who) = false := by simpa using qw
                    rw [if_neg qw] at E5
                    clear qw
                    cases w1' : (d.start == o.stop) with
                    | true =>
                      have E6' := Lib.hid (E6.out (by rw [w1']; rfl))
                      go_wp2_with (first | ((with_reducible refine at_alloc ?_); refine st_allocf K.out (fun _ => rfl) ?_; intro go w1 K1; have K2 := Lib.hid K1; clear K1 K; (try clear a0); (try clear l0); (try clear a1); (try clear l1); (try clear a2); (try clear l2); have K := K2; clear K2; have a0 := K.out.rd 0 rfl; have l0 := K.out.ltp 0 rfl; have a1 := K.out.rd 1 rfl; have l1 := K.out.ltp 1 rfl) | ((with_reducible refine at_store ?_); refine st_store 0 K.out rfl rfl rfl rfl ?_ ?_ ?_ ?_; (· kernel_rfl); (· simp); (· simp [Value.oneCell']); intro w1 K1; simp only [List.set, putL] at K1; have K2 := Lib.hid K1; clear K1 K; (try clear a0); (try clear l0); (try clear a1); (try clear l1); (try clear a2); (try clear l2); have K := K2; clear K2; have a0 := K.out.rd 0 rfl; have l0 := K.out.ltp 0 rfl; have a1 := K.out.rd 1 rfl; have l1 := K.out.ltp 1 rfl))
                      go_ret
                      exact ⟨ret_b E6'.out.symm, K.out.below⟩
                    | false =>
                      have v3 : decide (0 ≤ d.stop) = true := t2
                      cases w3' : (d.stop == o.stop) with
                      | true =>
                        have E6' := Lib.hid (E6.out (by rw [w1', v3, w3']; rfl))
                        go_wp2_with (first | ((with_reducible refine at_alloc ?_); refine st_allocf K.out (fun _ => rfl) ?_; intro go w1 K1; have K2 := Lib.hid K1; clear K1 K; (try clear a0); (try clear l0); (try clear a1); (try clear l1); (try clear a2); (try clear l2); have K := K2; clear K2; have a0 := K.out.rd 0 rfl; have l0 := K.out.ltp 0 rfl; have a1 := K.out.rd 1 rfl; have l1 := K.out.ltp 1 rfl) | ((with_reducible refine at_store ?_); refine st_store 0 K.out rfl rfl rfl rfl ?_ ?_ ?_ ?_; (· kernel_rfl); (· simp); (· simp [Value.oneCell']); intro w1 K1; simp only [List.set, putL] at K1; have K2 := Lib.hid K1; clear K1 K; (try clear a0); (try clear l0); (try clear a1); (try clear l1); (try clear a2); (try clear l2); have K := K2; clear K2; have a0 := K.out.rd 0 rfl; have l0 := K.out.ltp 0 rfl; have a1 := K.out.rd 1 rfl; have l1 := K.out.ltp 1 rfl))
                        go_ret
                        exact ⟨ret_b E6'.out.symm, K.out.below⟩
                      | false =>
                        cases w4' : (d.stop == o.start) with
                        | true =>
                          have E6' := Lib.hid (E6.out (by rw [w1', v3, w3', w4']; rfl))
                          go_wp2_with (first | ((with_reducible refine at_alloc ?_); refine st_allocf K.out (fun _ => rfl) ?_; intro go w1 K1; have K2 := Lib.hid K1; clear K1 K; (try clear a0); (try clear l0); (try clear a1); (try clear l1); (try clear a2); (try clear l2); have K := K2; clear K2; have a0 := K.out.rd 0 rfl; have l0 := K.out.ltp 0 rfl; have a1 := K.out.rd 1 rfl; have l1 := K.out.ltp 1 rfl) | ((with_reducible refine at_store ?_); refine st_store 0 K.out rfl rfl rfl rfl ?_ ?_ ?_ ?_; (· kernel_rfl); (· simp); (· simp [Value.oneCell']); intro w1 K1; simp only [List.set, putL] at K1; have K2 := Lib.hid K1; clear K1 K; (try clear a0); (try clear l0); (try clear a1); (try clear l1); (try clear a2); (try clear l2); have K := K2; clear K2; have a0 := K.out.rd 0 rfl; have l0 := K.out.ltp 0 rfl; have a1 := K.out.rd 1 rfl; have l1 := K.out.ltp 1 rfl))
                          go_ret
                          exact ⟨ret_b E6'.out.symm, K.out.below⟩
                        | false =>
                          have E4' := Lib.hid (E4.out.trans (by rw [w1', v3, w3', w4']; try rfl))
                          go_wp2_with (first | ((with_reducible refine at_alloc ?_); refine st_allocf K.out (fun _ => rfl) ?_; intro go w1 K1; have K2 := Lib.hid K1; clear K1 K; (try clear a0); (try clear l0); (try clear a1); (try clear l1); (try clear a2); (try clear l2); have K := K2; clear K2; have a0 := K.out.rd 0 rfl; have l0 := K.out.ltp 0 rfl; have a1 := K.out.rd 1 rfl; have l1 := K.out.ltp 1 rfl) | ((with_reducible refine at_store ?_); refine st_store 0 K.out rfl rfl rfl rfl ?_ ?_ ?_ ?_; (· kernel_rfl); (· simp); (· simp [Value.oneCell']); intro w1 K1; simp only [List.set, putL] at K1; have K2 := Lib.hid K1; clear K1 K; (try clear a0); (try clear l0); (try clear a1); (try clear l1); (try clear a2); (try clear l2); have K := K2; clear K2; have a0 := K.out.rd 0 rfl; have l0 := K.out.ltp 0 rfl; have a1 := K.out.rd 1 rfl; have l1 := K.out.ltp 1 rfl))
                          go_roundg gk2'
                          case measure => omega
                          case rel => exact ⟨k + 1, _, by have := HK.out; omega, by simp, rfl, E5.out, E4'.out, K.out.drop⟩
                · have hkl : k = (m + 1) := by omega
                  subst hkl
                  have d0 : decide ((m + 1) < (m + 1)) = false := by simp
                  clear hlt hk
                  rcases HO.out with ⟨rfl, hno⟩ | ⟨j, hj, hjk, rfl, hso⟩
                  · have E7 := Lib.hid (show lrightM [] l = lrightM (l.take ((m + 1) + 1)) (l.drop ((m + 1) + 1)) from by
                      rw [E2.out, show lokD pre d = true from by unfold lokD okOwn; rw [EH.out, ← HPRE.out, HA.out, hno]; rfl, Bool.true_and])
                    clear hno
                    go_wp2_with fail
                    refine wp_region_noPanic ?_
                    refine wp_region_held_drew (S := (fun w' => (∀ j, w'.cell? ⟨gd, j, none⟩ = d.v[j]?))) (by kernel_rfl) ?_ (fun hHeld => ?_)
                    · ((try dsimp only); (first | exact K.out.rd 0 rfl | exact K.out.drew.rd 0 rfl))
                    refine tk 0 (some 91) ?_
                    (try simp only [Act.put, p0, p1, p2])
                    refine tk 1 (some 92) ?_
                    (try simp only [Act.put, p0, p1, p2])
                    refine tk 2 (some 93) ?_
                    (try simp only [Act.put, p0, p1, p2])
                    refine sk 3 (some 94) ?_
                    (try simp only [Act.put, p0, p1, p2])
                    refine sk 4 (some 95) ?_
                    (try simp only [Act.put, p0, p1, p2])
                    refine sk 5 (some 96) ?_
                    (try simp only [Act.put, p0, p1, p2])
                    refine sk 6 (some 97) ?_
                    (try simp only [Act.put, p0, p1, p2])
                    refine sk 7 (some 98) ?_
                    (try simp only [Act.put, p0, p1, p2])
                    refine sk 8 (some 99) ?_
                    (try simp only [Act.put, p0, p1, p2])
                    refine sk 9 (some 100) ?_
                    (try simp only [Act.put, p0, p1, p2])
                    refine tk 10 (some 101) ?_
                    (try simp only [Act.put, p0, p1, p2])
                    refine wpAnyH_done (by kernel_rfl) (NoPanic.normal ?_) _
                    go_wp2
                    go_roundg gk'
                    case measure => omega
                    case rel => exact ⟨(m + 1) + 1, by have := HN.out; omega, by simp, E7.out, (show sat w _ _ from by first | exact K.out | exact K.out.drew).below⟩
                  · have hjl : j < l.length := by omega
                    obtain ⟨b_2, o_2, he_, hb0, hx0⟩ := H.out j hjl
                    simp only [Option.some.injEq, Addr.mk.injEq, and_true] at he_
                    obtain ⟨rfl, rfl⟩ := he_
                    have HX := Lib.hid (And.intro hb0 hx0)
                    have BF := fun w' => Lib.hid (lbefore_calls l[j] d w')
                    have tj : decide ((j : Int) ≥ 0) = true := by simp
                    have j0 : (0 : Int) ≤ (j : Int) := by omega
                    have j1 : (j : Int) < (l.length : Int) := by omega
                    have SX := Lib.hid (fun (w' : World) (hb : Below w.heap.size w w') (i : Nat) (u : Value) (hi : (DeedM.v l[j])[i]? = some u) => (hb.cell (p := ⟨b, off + j * 11 + i, none⟩) HX.out.1).trans (HX.out.2 i u hi))
                    have E7 := Lib.hid (show lrightM [] l = (overB l[j] d && lrightM (l.take ((m + 1) + 1)) (l.drop ((m + 1) + 1))) from by
                      rw [E2.out, show lokD pre d = overB l[j] d from by unfold lokD okOwn; rw [EH.out, ← HPRE.out, HA.out, hso]; rfl])
                    rw [over_before] at *
                    clear hb0 hx0 hso
                    generalize l[j] = o at *
                    cases hbf : overB o d with
                    | true =>
                      rw [hbf] at BF
                      have E8 := Lib.hid (show lrightM [] l = lrightM (l.take ((m + 1) + 1)) (l.drop ((m + 1) + 1)) from by rw [E7.out, hbf, Bool.true_and])
                      clear hbf
                      go_wp2_with fail
                      refine wp_region_noPanic ?_
                      refine wp_region_held_drew (S := (fun w' => (∀ i, w'.cell? ⟨gd, i, none⟩ = d.v[i]?) ∧ w'.cell? ⟨b, off + j * 11, none⟩ = some (.int .i64 o.who) ∧ w'.cell? ⟨b, off + j * 11 + 1, none⟩ = some (.int .i64 o.call.kind) ∧ w'.cell? ⟨b, off + j * 11 + 2, none⟩ = some (.int .i64 o.call.fin) ∧ w'.cell? ⟨b, off + j * 11 + 3, none⟩ = some (.int .u64 o.call.value) ∧ w'.cell? ⟨b, off + j * 11 + 4, none⟩ = some (.int .i64 o.call.start) ∧ w'.cell? ⟨b, off + j * 11 + 5, none⟩ = some (.int .i64 o.start) ∧ w'.cell? ⟨b, off + j * 11 + 6, none⟩ = some (.int .i64 o.stop) ∧ w'.cell? ⟨b, off + j * 11 + 7, none⟩ = some (.bool o.reply.ok) ∧ w'.cell? ⟨b, off + j * 11 + 8, none⟩ = some (.int .u64 o.reply.value) ∧ w'.cell? ⟨b, off + j * 11 + 9, none⟩ = some (.int .i64 o.reply.stamp.lo) ∧ w'.cell? ⟨b, off + j * 11 + 10, none⟩ = some (.int .i64 o.reply.stamp.hi))) (by kernel_rfl) ?_ (fun hHeld => ?_)
                      · ((try dsimp only); (first | exact ⟨K.out.rd 0 rfl, SX.out _ K.out.below 0 _ rfl, SX.out _ K.out.below 1 _ rfl, SX.out _ K.out.below 2 _ rfl, SX.out _ K.out.below 3 _ rfl, SX.out _ K.out.below 4 _ rfl, SX.out _ K.out.below 5 _ rfl, SX.out _ K.out.below 6 _ rfl, SX.out _ K.out.below 7 _ rfl, SX.out _ K.out.below 8 _ rfl, SX.out _ K.out.below 9 _ rfl, SX.out _ K.out.below 10 _ rfl⟩ | exact ⟨K.out.drew.rd 0 rfl, SX.out _ K.out.drew.below 0 _ rfl, SX.out _ K.out.drew.below 1 _ rfl, SX.out _ K.out.drew.below 2 _ rfl, SX.out _ K.out.drew.below 3 _ rfl, SX.out _ K.out.drew.below 4 _ rfl, SX.out _ K.out.drew.below 5 _ rfl, SX.out _ K.out.drew.below 6 _ rfl, SX.out _ K.out.drew.below 7 _ rfl, SX.out _ K.out.drew.below 8 _ rfl, SX.out _ K.out.drew.below 9 _ rfl, SX.out _ K.out.drew.below 10 _ rfl⟩))
                      refine tk 0 (some 91) ?_
                      (try simp only [Act.put, p0, p1, p2])
                      refine tk 1 (some 92) ?_
                      (try simp only [Act.put, p0, p1, p2])
                      refine tk 2 (some 93) ?_
                      (try simp only [Act.put, p0, p1, p2])
                      refine tk 3 (some 94) ?_
                      (try simp only [Act.put, p0, p1, p2])
                      refine tk 4 (some 95) ?_
                      (try simp only [Act.put, p0, p1, p2])
                      refine tk 5 (some 96) ?_
                      (try simp only [Act.put, p0, p1, p2])
                      refine tk 6 (some 97) ?_
                      (try simp only [Act.put, p0, p1, p2])
                      refine tk 7 (some 98) ?_
                      (try simp only [Act.put, p0, p1, p2])
                      refine wpAnyH_ready (rs := [8]) (by kernel_rfl) (by simp) ?_
                      refine AllReadyH.cons (o := _) rfl (fun kC hkC => ?_) AllReadyH.nil
                      go_simp
                      (first | (go_at_call 82; (with_reducible refine ((BF _).out).mono ?_); rintro e w1 ⟨rfl, hb⟩; have K1 := sat.grown (show sat _ _ _ from by first | exact K.out | exact K.out.drew) hb; clear hb; have K2 := Lib.hid K1; clear K1 K; (try clear a0); (try clear l0); (try clear f0); (try clear a1); (try clear l1); (try clear f1); (try clear a2); (try clear l2); (try clear f2); (try clear a3); (try clear l3); (try clear f3); (try clear a4); (try clear l4); (try clear f4); (try clear a5); (try clear l5); (try clear f5); have K := K2; clear K2; (try have a0 := K.out.rd 0 rfl); (try have l0 := K.out.ltp 0 rfl); (try have f0 := K.out.fr 0 rfl); (try have a1 := K.out.rd 1 rfl); (try have l1 := K.out.ltp 1 rfl); (try have f1 := K.out.fr 1 rfl); (try have a2 := K.out.rd 2 rfl); (try have l2 := K.out.ltp 2 rfl); (try have f2 := K.out.fr 2 rfl); (try have a3 := K.out.rd 3 rfl); (try have l3 := K.out.ltp 3 rfl); (try have f3 := K.out.fr 3 rfl)))
                      refine shown hkC _ _ (by (try dsimp only); (first | exact ⟨K.out.rd 0 rfl, SX.out _ K.out.below 0 _ rfl, SX.out _ K.out.below 1 _ rfl, SX.out _ K.out.below 2 _ rfl, SX.out _ K.out.below 3 _ rfl, SX.out _ K.out.below 4 _ rfl, SX.out _ K.out.below 5 _ rfl, SX.out _ K.out.below 6 _ rfl, SX.out _ K.out.below 7 _ rfl, SX.out _ K.out.below 8 _ rfl, SX.out _ K.out.below 9 _ rfl, SX.out _ K.out.below 10 _ rfl⟩ | exact ⟨K.out.drew.rd 0 rfl, SX.out _ K.out.drew.below 0 _ rfl, SX.out _ K.out.drew.below 1 _ rfl, SX.out _ K.out.drew.below 2 _ rfl, SX.out _ K.out.drew.below 3 _ rfl, SX.out _ K.out.drew.below 4 _ rfl, SX.out _ K.out.drew.below 5 _ rfl, SX.out _ K.out.drew.below 6 _ rfl, SX.out _ K.out.drew.below 7 _ rfl, SX.out _ K.out.drew.below 8 _ rfl, SX.out _ K.out.drew.below 9 _ rfl, SX.out _ K.out.drew.below 10 _ rfl⟩)) ?_; clear hkC kC hHeld; intro hHeld
                      (try simp only [Act.put, p0, p1, p2])
                      refine tk 9 (some 100) ?_
                      (try simp only [Act.put, p0, p1, p2])
                      refine tk 10 (some 101) ?_
                      (try simp only [Act.put, p0, p1, p2])
                      refine wpAnyH_done (by kernel_rfl) (NoPanic.normal ?_) _
                      go_wp2
                      go_roundg gk'
                      case measure => omega
                      case rel => exact ⟨(m + 1) + 1, by have := HN.out; omega, by simp, E8.out, (show sat w _ _ from by first | exact K.out | exact K.out.drew).below⟩
                    | false =>
                      rw [hbf] at BF
                      have E8 := Lib.hid (show lrightM [] l = false from by rw [E7.out, hbf]; rfl)
                      clear hbf
                      go_wp2_with fail
                      refine wp_region_noPanic ?_
                      refine wp_region_held_drew (S := (fun w' => (∀ i, w'.cell? ⟨gd, i, none⟩ = d.v[i]?) ∧ w'.cell? ⟨b, off + j * 11, none⟩ = some (.int .i64 o.who) ∧ w'.cell? ⟨b, off + j * 11 + 1, none⟩ = some (.int .i64 o.call.kind) ∧ w'.cell? ⟨b, off + j * 11 + 2, none⟩ = some (.int .i64 o.call.fin) ∧ w'.cell? ⟨b, off + j * 11 + 3, none⟩ = some (.int .u64 o.call.value) ∧ w'.cell? ⟨b, off + j * 11 + 4, none⟩ = some (.int .i64 o.call.start) ∧ w'.cell? ⟨b, off + j * 11 + 5, none⟩ = some (.int .i64 o.start) ∧ w'.cell? ⟨b, off + j * 11 + 6, none⟩ = some (.int .i64 o.stop) ∧ w'.cell? ⟨b, off + j * 11 + 7, none⟩ = some (.bool o.reply.ok) ∧ w'.cell? ⟨b, off + j * 11 + 8, none⟩ = some (.int .u64 o.reply.value) ∧ w'.cell? ⟨b, off + j * 11 + 9, none⟩ = some (.int .i64 o.reply.stamp.lo) ∧ w'.cell? ⟨b, off + j * 11 + 10, none⟩ = some (.int .i64 o.reply.stamp.hi))) (by kernel_rfl) ?_ (fun hHeld => ?_)
                      · ((try dsimp only); (first | exact ⟨K.out.rd 0 rfl, SX.out _ K.out.below 0 _ rfl, SX.out _ K.out.below 1 _ rfl, SX.out _ K.out.below 2 _ rfl, SX.out _ K.out.below 3 _ rfl, SX.out _ K.out.below 4 _ rfl, SX.out _ K.out.below 5 _ rfl, SX.out _ K.out.below 6 _ rfl, SX.out _ K.out.below 7 _ rfl, SX.out _ K.out.below 8 _ rfl, SX.out _ K.out.below 9 _ rfl, SX.out _ K.out.below 10 _ rfl⟩ | exact ⟨K.out.drew.rd 0 rfl, SX.out _ K.out.drew.below 0 _ rfl, SX.out _ K.out.drew.below 1 _ rfl, SX.out _ K.out.drew.below 2 _ rfl, SX.out _ K.out.drew.below 3 _ rfl, SX.out _ K.out.drew.below 4 _ rfl, SX.out _ K.out.drew.below 5 _ rfl, SX.out _ K.out.drew.below 6 _ rfl, SX.out _ K.out.drew.below 7 _ rfl, SX.out _ K.out.drew.below 8 _ rfl, SX.out _ K.out.drew.below 9 _ rfl, SX.out _ K.out.drew.below 10 _ rfl⟩))
                      refine tk 0 (some 91) ?_
                      (try simp only [Act.put, p0, p1, p2])
                      refine tk 1 (some 92) ?_
                      (try simp only [Act.put, p0, p1, p2])
                      refine tk 2 (some 93) ?_
                      (try simp only [Act.put, p0, p1, p2])
                      refine tk 3 (some 94) ?_
                      (try simp only [Act.put, p0, p1, p2])
                      refine tk 4 (some 95) ?_
                      (try simp only [Act.put, p0, p1, p2])
                      refine tk 5 (some 96) ?_
                      (try simp only [Act.put, p0, p1, p2])
                      refine tk 6 (some 97) ?_
                      (try simp only [Act.put, p0, p1, p2])
                      refine tk 7 (some 98) ?_
                      (try simp only [Act.put, p0, p1, p2])
                      refine wpAnyH_ready (rs := [8]) (by kernel_rfl) (by simp) ?_
                      refine AllReadyH.cons (o := _) rfl (fun kC hkC => ?_) AllReadyH.nil
                      go_simp
                      (first | (go_at_call 82; (with_reducible refine ((BF _).out).mono ?_); rintro e w1 ⟨rfl, hb⟩; have K1 := sat.grown (show sat _ _ _ from by first | exact K.out | exact K.out.drew) hb; clear hb; have K2 := Lib.hid K1; clear K1 K; (try clear a0); (try clear l0); (try clear f0); (try clear a1); (try clear l1); (try clear f1); (try clear a2); (try clear l2); (try clear f2); (try clear a3); (try clear l3); (try clear f3); (try clear a4); (try clear l4); (try clear f4); (try clear a5); (try clear l5); (try clear f5); have K := K2; clear K2; (try have a0 := K.out.rd 0 rfl); (try have l0 := K.out.ltp 0 rfl); (try have f0 := K.out.fr 0 rfl); (try have a1 := K.out.rd 1 rfl); (try have l1 := K.out.ltp 1 rfl); (try have f1 := K.out.fr 1 rfl); (try have a2 := K.out.rd 2 rfl); (try have l2 := K.out.ltp 2 rfl); (try have f2 := K.out.fr 2 rfl); (try have a3 := K.out.rd 3 rfl); (try have l3 := K.out.ltp 3 rfl); (try have f3 := K.out.fr 3 rfl)))
                      refine shown hkC _ _ (by (try dsimp only); (first | exact ⟨K.out.rd 0 rfl, SX.out _ K.out.below 0 _ rfl, SX.out _ K.out.below 1 _ rfl, SX.out _ K.out.below 2 _ rfl, SX.out _ K.out.below 3 _ rfl, SX.out _ K.out.below 4 _ rfl, SX.out _ K.out.below 5 _ rfl, SX.out _ K.out.below 6 _ rfl, SX.out _ K.out.below 7 _ rfl, SX.out _ K.out.below 8 _ rfl, SX.out _ K.out.below 9 _ rfl, SX.out _ K.out.below 10 _ rfl⟩ | exact ⟨K.out.drew.rd 0 rfl, SX.out _ K.out.drew.below 0 _ rfl, SX.out _ K.out.drew.below 1 _ rfl, SX.out _ K.out.drew.below 2 _ rfl, SX.out _ K.out.drew.below 3 _ rfl, SX.out _ K.out.drew.below 4 _ rfl, SX.out _ K.out.drew.below 5 _ rfl, SX.out _ K.out.drew.below 6 _ rfl, SX.out _ K.out.drew.below 7 _ rfl, SX.out _ K.out.drew.below 8 _ rfl, SX.out _ K.out.drew.below 9 _ rfl, SX.out _ K.out.drew.below 10 _ rfl⟩)) ?_; clear hkC kC hHeld; intro hHeld
                      (try simp only [Act.put, p0, p1, p2])
                      refine tk 9 (some 100) ?_
                      (try simp only [Act.put, p0, p1, p2])
                      refine tk 10 (some 101) ?_
                      (try simp only [Act.put, p0, p1, p2])
                      refine wpAnyH_done (by kernel_rfl) (NoPanic.normal ?_) _
                      go_wp2
                      go_ret
                      exact ⟨ret_b E8.out.symm, (show sat w _ _ from by first | exact K.out | exact K.out.drew).below⟩
            · have t2 : decide (d.stop ≥ 0) = false := by simpa using q5
              have EH := Lib.hid (show lokHead pre d = true from by unfold lokHead; rw [EZ.out, EP.out, q4, show decide (d.stop < 0) = true by simp; omega]; simp)
              clear q2 q5
              go_wp2_with (first | ((with_reducible refine at_alloc ?_); refine st_allocf K.out (fun _ => rfl) ?_; intro gd w1 K1; have K2 := Lib.hid K1; clear K1 K; (try clear a0); (try clear l0); (try clear a1); (try clear l1); (try clear a2); (try clear l2); have K := K2; clear K2; have a0 := K.out.rd 0 rfl; have l0 := K.out.ltp 0 rfl) | ((with_reducible refine at_store ?_); refine st_store 0 K.out rfl rfl rfl rfl ?_ ?_ ?_ ?_; (· kernel_rfl); (· simp); (· simp [Value.oneCell']); intro w1 K1; simp only [List.set, putL] at K1; have K2 := Lib.hid K1; clear K1 K; (try clear a0); (try clear l0); (try clear a1); (try clear l1); (try clear a2); (try clear l2); have K := K2; clear K2; have a0 := K.out.rd 0 rfl; have l0 := K.out.ltp 0 rfl))
              refine wp_region_noPanic ?_
              refine wp_region_held_drew (S := (fun w' => (∀ j, w'.cell? ⟨gd, j, none⟩ = d.v[j]?) ∧ w'.cell? ⟨b, off + m * 11 + 5, none⟩ = some (.int .i64 ps))) (by kernel_rfl) ?_ (fun hHeld => ?_)
              · ((try dsimp only); (first | exact ⟨K.out.rd 0 rfl, (K.out.below.cell (p := ⟨b, off + m * 11 + 5, none⟩) HP.out.1).trans HP.out.2⟩ | exact ⟨K.out.drew.rd 0 rfl, (K.out.drew.below.cell (p := ⟨b, off + m * 11 + 5, none⟩) HP.out.1).trans HP.out.2⟩))
              refine tk 0 (some 15) ?_
              (try simp only [Act.put, p0, p1, p2])
              refine tk 1 (some 16) ?_
              (try simp only [Act.put, p0, p1, p2])
              refine tk 2 (some 17) ?_
              (try simp only [Act.put, p0, p1, p2])
              refine tk 3 (some 18) ?_
              (try simp only [Act.put, p0, p1, p2])
              refine tk 4 (some 19) ?_
              (try simp only [Act.put, p0, p1, p2])
              refine tk 5 (some 20) ?_
              (try simp only [Act.put, p0, p1, p2])
              refine tk 6 (some 21) ?_
              (try simp only [Act.put, p0, p1, p2])
              refine tk 7 (some 22) ?_
              (try simp only [Act.put, p0, p1, p2])
              refine tk 8 (some 23) ?_
              (try simp only [Act.put, p0, p1, p2])
              refine tk 9 (some 24) ?_
              (try simp only [Act.put, p0, p1, p2])
              refine tk 10 (some 25) ?_
              (try simp only [Act.put, p0, p1, p2])
              refine tk 11 (some 26) ?_
              (try simp only [Act.put, p0, p1, p2])
              refine tk 12 (some 27) ?_
              (try simp only [Act.put, p0, p1, p2])
              refine tk 13 (some 28) ?_
              (try simp only [Act.put, p0, p1, p2])
              refine tk 14 (some 29) ?_
              (try simp only [Act.put, p0, p1, p2])
              refine tk 15 (some 30) ?_
              (try simp only [Act.put, p0, p1, p2])
              refine tk 16 (some 31) ?_
              (try simp only [Act.put, p0, p1, p2])
              refine tk 17 (some 32) ?_
              (try simp only [Act.put, p0, p1, p2])
              refine tk 18 (some 33) ?_
              (try simp only [Act.put, p0, p1, p2])
              refine tk 19 (some 34) ?_
              (try simp only [Act.put, p0, p1, p2])
              refine tk 20 (some 35) ?_
              (try simp only [Act.put, p0, p1, p2])
              refine tk 21 (some 36) ?_
              (try simp only [Act.put, p0, p1, p2])
              refine tk 22 (some 37) ?_
              (try simp only [Act.put, p0, p1, p2])
              refine sk 23 (some 38) ?_
              (try simp only [Act.put, p0, p1, p2])
              refine sk 24 (some 39) ?_
              (try simp only [Act.put, p0, p1, p2])
              refine sk 25 (some 40) ?_
              (try simp only [Act.put, p0, p1, p2])
              refine sk 26 (some 41) ?_
              (try simp only [Act.put, p0, p1, p2])
              refine sk 27 (some 42) ?_
              (try simp only [Act.put, p0, p1, p2])
              refine tk 28 (some 43) ?_
              (try simp only [Act.put, p0, p1, p2])
              refine tk 29 (some 44) ?_
              (try simp only [Act.put, p0, p1, p2])
              refine tk 30 (some 45) ?_
              (try simp only [Act.put, p0, p1, p2])
              refine tk 31 (some 46) ?_
              (try simp only [Act.put, p0, p1, p2])
              refine tk 32 (some 47) ?_
              (try simp only [Act.put, p0, p1, p2])
              refine wpAnyH_ready (rs := [33]) (by kernel_rfl) (by simp) ?_
              refine AllReadyH.cons (o := _) rfl (fun kC hkC => ?_) AllReadyH.nil
              go_simp
              (first | (go_at_call 68; (with_reducible refine ((CR _).out).mono ?_); rintro e w1 ⟨rfl, hb⟩; have K1 := sat.grown (show sat _ _ _ from by first | exact K.out | exact K.out.drew) hb; clear hb; have K2 := Lib.hid K1; clear K1 K; (try clear a0); (try clear l0); (try clear f0); (try clear a1); (try clear l1); (try clear f1); (try clear a2); (try clear l2); (try clear f2); (try clear a3); (try clear l3); (try clear f3); (try clear a4); (try clear l4); (try clear f4); (try clear a5); (try clear l5); (try clear f5); have K := K2; clear K2; (try have a0 := K.out.rd 0 rfl); (try have l0 := K.out.ltp 0 rfl); (try have f0 := K.out.fr 0 rfl); (try have a1 := K.out.rd 1 rfl); (try have l1 := K.out.ltp 1 rfl); (try have f1 := K.out.fr 1 rfl); (try have a2 := K.out.rd 2 rfl); (try have l2 := K.out.ltp 2 rfl); (try have f2 := K.out.fr 2 rfl); (try have a3 := K.out.rd 3 rfl); (try have l3 := K.out.ltp 3 rfl); (try have f3 := K.out.fr 3 rfl)))
              refine shown hkC _ _ (by (try dsimp only); (first | exact ⟨K.out.rd 0 rfl, (K.out.below.cell (p := ⟨b, off + m * 11 + 5, none⟩) HP.out.1).trans HP.out.2⟩ | exact ⟨K.out.drew.rd 0 rfl, (K.out.drew.below.cell (p := ⟨b, off + m * 11 + 5, none⟩) HP.out.1).trans HP.out.2⟩)) ?_; clear hkC kC hHeld; intro hHeld
              (try simp only [Act.put, p0, p1, p2])
              refine tk 34 (some 49) ?_
              (try simp only [Act.put, p0, p1, p2])
              refine tk 35 (some 50) ?_
              (try simp only [Act.put, p0, p1, p2])
              refine wpAnyH_done (by kernel_rfl) (NoPanic.normal ?_) _
              have K1 : sat w _ _ := (by first | exact K.out | exact K.out.drew)
              clear K
              (try clear a0)
              (try clear l0)
              have K := Lib.hid K1
              clear K1
              have a0 := K.out.rd 0 rfl
              have l0 := K.out.ltp 0 rfl
              go_wp2
              go_loopg [55, 5] (m + 1) (fun gk i ow w' => ∃ (k : Nat) (own : Int), k + gk = (m + 1) ∧ i = .int .i64 k ∧ ow = .int .i64 own ∧ OwnI l d.who k own ∧ (l.take k).all (lokO d) = true ∧ sat w w' [deedA gd d])
              case atStart => exact ⟨0, -1, by simp, rfl, rfl, OwnI.start _ _, rfl, K.out⟩
              case round =>
                obtain ⟨k, own, hk, rfl, rfl, hO, hA, hs⟩ := hrel
                clear K a0 l0
                have K := Lib.hid hs
                clear hs
                have a0 := K.out.rd 0 rfl
                have l0 := K.out.ltp 0 rfl
                have HO := Lib.hid hO
                have HA := Lib.hid hA
                have HK := Lib.hid hk
                clear hO hA
                by_cases hlt : k < (m + 1)
                · have d0 : decide (k < (m + 1)) = true := by simpa using hlt
                  have hltk : k < l.length := by omega
                  obtain ⟨b_2, o_2, he_, hb0, hx0⟩ := H.out k hltk
                  simp only [Option.some.injEq, Addr.mk.injEq, and_true] at he_
                  obtain ⟨rfl, rfl⟩ := he_
                  have hx : ∀ i u, (DeedM.v l[k])[i]? = some u → wr.cell? ⟨b, off + k * 11 + i, none⟩ = some u := fun i u hi => (K.out.below.cell (p := ⟨b, off + k * 11 + i, none⟩) hb0).trans (hx0 i u hi)
                  have y0 : wr.cell? ⟨b, off + k * 11, none⟩ = _ := hx 0 _ rfl
                  have y1 := hx 1 _ rfl; have y2 := hx 2 _ rfl; have y3 := hx 3 _ rfl; have y4 := hx 4 _ rfl; have y5 := hx 5 _ rfl; have y6 := hx 6 _ rfl; have y7 := hx 7 _ rfl; have y8 := hx 8 _ rfl; have y9 := hx 9 _ rfl; have y10 := hx 10 _ rfl
                  have E4 := Lib.hid (show (l.take (k + 1)).all (lokO d) = lokO d l[k] from by rw [List.take_succ_eq_append_getElem hltk, List.all_append, HA.out]; simp)
                  have E5 := Lib.hid (show OwnI l d.who (k + 1) (if l[k].who = d.who then (k : Int) else own) from HO.out.step hltk)
                  have E6 := Lib.hid (show lokO d l[k] = false → lrightM [] l = false from fun h => by
                    rw [E2.out, show lokD pre d = false from by
                      unfold lokD
                      rw [show pre.all (lokO d) = false from by
                        rw [← Bool.not_eq_true, List.all_eq_true]
                        intro hall
                        have := hall l[k] (by rw [← HPRE.out]; exact List.mem_take_iff_getElem.2 ⟨k, by omega, rfl⟩)
                        rw [h] at this; cases this]
                      simp]
                    rfl)
                  clear hx hx0 hb0 hk
                  unfold lokO at E4 E6
                  generalize l[k] = o at *
                  obtain ⟨gk2', rfl⟩ : ∃ g', gk = g' + 1 := ⟨gk - 1, by have := HK.out; omega⟩
                  by_cases qw : o.who = d.who
                  · have tw : (o.who == d.who) = true := by simpa using qw
                    rw [if_pos qw] at E5
                    clear qw
                    cases w1' : (d.start == o.stop) with
                    | true =>
                      have E6' := Lib.hid (E6.out (by rw [w1']; rfl))
                      go_wp2_with (first | ((with_reducible refine at_alloc ?_); refine st_allocf K.out (fun _ => rfl) ?_; intro go w1 K1; have K2 := Lib.hid K1; clear K1 K; (try clear a0); (try clear l0); (try clear a1); (try clear l1); (try clear a2); (try clear l2); have K := K2; clear K2; have a0 := K.out.rd 0 rfl; have l0 := K.out.ltp 0 rfl; have a1 := K.out.rd 1 rfl; have l1 := K.out.ltp 1 rfl) | ((with_reducible refine at_store ?_); refine st_store 0 K.out rfl rfl rfl rfl ?_ ?_ ?_ ?_; (· kernel_rfl); (· simp); (· simp [Value.oneCell']); intro w1 K1; simp only [List.set, putL] at K1; have K2 := Lib.hid K1; clear K1 K; (try clear a0); (try clear l0); (try clear a1); (try clear l1); (try clear a2); (try clear l2); have K := K2; clear K2; have a0 := K.out.rd 0 rfl; have l0 := K.out.ltp 0 rfl; have a1 := K.out.rd 1 rfl; have l1 := K.out.ltp 1 rfl))
                      go_ret
                      exact ⟨ret_b E6'.out.symm, K.out.below⟩
                    | false =>
                      have v3 : decide (0 ≤ d.stop) = false := t2
                      have E4' := Lib.hid (E4.out.trans (by rw [w1', v3]; try rfl))
                      go_wp2_with (first | ((with_reducible refine at_alloc ?_); refine st_allocf K.out (fun _ => rfl) ?_; intro go w1 K1; have K2 := Lib.hid K1; clear K1 K; (try clear a0); (try clear l0); (try clear a1); (try clear l1); (try clear a2); (try clear l2); have K := K2; clear K2; have a0 := K.out.rd 0 rfl; have l0 := K.out.ltp 0 rfl; have a1 := K.out.rd 1 rfl; have l1 := K.out.ltp 1 rfl) | ((with_reducible refine at_store ?_); refine st_store 0 K.out rfl rfl rfl rfl ?_ ?_ ?_ ?_; (· kernel_rfl); (· simp); (· simp [Value.oneCell']); intro w1 K1; simp only [List.set, putL] at K1; have K2 := Lib.hid K1; clear K1 K; (try clear a0); (try clear l0); (try clear a1); (try clear l1); (try clear a2); (try clear l2); have K := K2; clear K2; have a0 := K.out.rd 0 rfl; have l0 := K.out.ltp 0 rfl; have a1 := K.out.rd 1 rfl; have l1 := K.out.ltp 1 rfl))
                      go_roundg gk2'
                      case measure => omega
                      case rel => exact ⟨k + 1, _, by have := HK.out; omega, by simp, rfl, E5.out, E4'.out, K.out.drop⟩
                  · have tw : (o.who == d.who) = false := by simpa using qw
                    rw [if_neg qw] at E5
                    clear qw
                    cases w1' : (d.start == o.stop) with
                    | true =>
                      have E6' := Lib.hid (E6.out (by rw [w1']; rfl))
                      go_wp2_with (first | ((with_reducible refine at_alloc ?_); refine st_allocf K.out (fun _ => rfl) ?_; intro go w1 K1; have K2 := Lib.hid K1; clear K1 K; (try clear a0); (try clear l0); (try clear a1); (try clear l1); (try clear a2); (try clear l2); have K := K2; clear K2; have a0 := K.out.rd 0 rfl; have l0 := K.out.ltp 0 rfl; have a1 := K.out.rd 1 rfl; have l1 := K.out.ltp 1 rfl) | ((with_reducible refine at_store ?_); refine st_store 0 K.out rfl rfl rfl rfl ?_ ?_ ?_ ?_; (· kernel_rfl); (· simp); (· simp [Value.oneCell']); intro w1 K1; simp only [List.set, putL] at K1; have K2 := Lib.hid K1; clear K1 K; (try clear a0); (try clear l0); (try clear a1); (try clear l1); (try clear a2); (try clear l2); have K := K2; clear K2; have a0 := K.out.rd 0 rfl; have l0 := K.out.ltp 0 rfl; have a1 := K.out.rd 1 rfl; have l1 := K.out.ltp 1 rfl))
                      go_ret
                      exact ⟨ret_b E6'.out.symm, K.out.below⟩
                    | false =>
                      have v3 : decide (0 ≤ d.stop) = false := t2
                      have E4' := Lib.hid (E4.out.trans (by rw [w1', v3]; try rfl))
                      go_wp2_with (first | ((with_reducible refine at_alloc ?_); refine st_allocf K.out (fun _ => rfl) ?_; intro go w1 K1; have K2 := Lib.hid K1; clear K1 K; (try clear a0); (try clear l0); (try clear a1); (try clear l1); (try clear a2); (try clear l2); have K := K2; clear K2; have a0 := K.out.rd 0 rfl; have l0 := K.out.ltp 0 rfl; have a1 := K.out.rd 1 rfl; have l1 := K.out.ltp 1 rfl) | ((with_reducible refine at_store ?_); refine st_store 0 K.out rfl rfl rfl rfl ?_ ?_ ?_ ?_; (· kernel_rfl); (· simp); (· simp [Value.oneCell']); intro w1 K1; simp only [List.set, putL] at K1; have K2 := Lib.hid K1; clear K1 K; (try clear a0); (try clear l0); (try clear a1); (try clear l1); (try clear a2); (try clear l2); have K := K2; clear K2; have a0 := K.out.rd 0 rfl; have l0 := K.out.ltp 0 rfl; have a1 := K.out.rd 1 rfl; have l1 := K.out.ltp 1 rfl))
                      go_roundg gk2'
                      case measure => omega
                      case rel => exact ⟨k + 1, _, by have := HK.out; omega, by simp, rfl, E5.out, E4'.out, K.out.drop⟩
                · have hkl : k = (m + 1) := by omega
                  subst hkl
                  have d0 : decide ((m + 1) < (m + 1)) = false := by simp
                  clear hlt hk
                  rcases HO.out with ⟨rfl, hno⟩ | ⟨j, hj, hjk, rfl, hso⟩
                  · have E7 := Lib.hid (show lrightM [] l = lrightM (l.take ((m + 1) + 1)) (l.drop ((m + 1) + 1)) from by
                      rw [E2.out, show lokD pre d = true from by unfold lokD okOwn; rw [EH.out, ← HPRE.out, HA.out, hno]; rfl, Bool.true_and])
                    clear hno
                    go_wp2_with fail
                    refine wp_region_noPanic ?_
                    refine wp_region_held_drew (S := (fun w' => (∀ j, w'.cell? ⟨gd, j, none⟩ = d.v[j]?))) (by kernel_rfl) ?_ (fun hHeld => ?_)
                    · ((try dsimp only); (first | exact K.out.rd 0 rfl | exact K.out.drew.rd 0 rfl))
                    refine tk 0 (some 91) ?_
                    (try simp only [Act.put, p0, p1, p2])
                    refine tk 1 (some 92) ?_
                    (try simp only [Act.put, p0, p1, p2])
                    refine tk 2 (some 93) ?_
                    (try simp only [Act.put, p0, p1, p2])
                    refine sk 3 (some 94) ?_
                    (try simp only [Act.put, p0, p1, p2])
                    refine sk 4 (some 95) ?_
                    (try simp only [Act.put, p0, p1, p2])
                    refine sk 5 (some 96) ?_
                    (try simp only [Act.put, p0, p1, p2])
                    refine sk 6 (some 97) ?_
                    (try simp only [Act.put, p0, p1, p2])
                    refine sk 7 (some 98) ?_
                    (try simp only [Act.put, p0, p1, p2])
                    refine sk 8 (some 99) ?_
                    (try simp only [Act.put, p0, p1, p2])
                    refine sk 9 (some 100) ?_
                    (try simp only [Act.put, p0, p1, p2])
                    refine tk 10 (some 101) ?_
                    (try simp only [Act.put, p0, p1, p2])
                    refine wpAnyH_done (by kernel_rfl) (NoPanic.normal ?_) _
                    go_wp2
                    go_roundg gk'
                    case measure => omega
                    case rel => exact ⟨(m + 1) + 1, by have := HN.out; omega, by simp, E7.out, (show sat w _ _ from by first | exact K.out | exact K.out.drew).below⟩
                  · have hjl : j < l.length := by omega
                    obtain ⟨b_2, o_2, he_, hb0, hx0⟩ := H.out j hjl
                    simp only [Option.some.injEq, Addr.mk.injEq, and_true] at he_
                    obtain ⟨rfl, rfl⟩ := he_
                    have HX := Lib.hid (And.intro hb0 hx0)
                    have BF := fun w' => Lib.hid (lbefore_calls l[j] d w')
                    have tj : decide ((j : Int) ≥ 0) = true := by simp
                    have j0 : (0 : Int) ≤ (j : Int) := by omega
                    have j1 : (j : Int) < (l.length : Int) := by omega
                    have SX := Lib.hid (fun (w' : World) (hb : Below w.heap.size w w') (i : Nat) (u : Value) (hi : (DeedM.v l[j])[i]? = some u) => (hb.cell (p := ⟨b, off + j * 11 + i, none⟩) HX.out.1).trans (HX.out.2 i u hi))
                    have E7 := Lib.hid (show lrightM [] l = (overB l[j] d && lrightM (l.take ((m + 1) + 1)) (l.drop ((m + 1) + 1))) from by
                      rw [E2.out, show lokD pre d = overB l[j] d from by unfold lokD okOwn; rw [EH.out, ← HPRE.out, HA.out, hso]; rfl])
                    rw [over_before] at *
                    clear hb0 hx0 hso
                    generalize l[j] = o at *
                    cases hbf : overB o d with
                    | true =>
                      rw [hbf] at BF
                      have E8 := Lib.hid (show lrightM [] l = lrightM (l.take ((m + 1) + 1)) (l.drop ((m + 1) + 1)) from by rw [E7.out, hbf, Bool.true_and])
                      clear hbf
                      go_wp2_with fail
                      refine wp_region_noPanic ?_
                      refine wp_region_held_drew (S := (fun w' => (∀ i, w'.cell? ⟨gd, i, none⟩ = d.v[i]?) ∧ w'.cell? ⟨b, off + j * 11, none⟩ = some (.int .i64 o.who) ∧ w'.cell? ⟨b, off + j * 11 + 1, none⟩ = some (.int .i64 o.call.kind) ∧ w'.cell? ⟨b, off + j * 11 + 2, none⟩ = some (.int .i64 o.call.fin) ∧ w'.cell? ⟨b, off + j * 11 + 3, none⟩ = some (.int .u64 o.call.value) ∧ w'.cell? ⟨b, off + j * 11 + 4, none⟩ = some (.int .i64 o.call.start) ∧ w'.cell? ⟨b, off + j * 11 + 5, none⟩ = some (.int .i64 o.start) ∧ w'.cell? ⟨b, off + j * 11 + 6, none⟩ = some (.int .i64 o.stop) ∧ w'.cell? ⟨b, off + j * 11 + 7, none⟩ = some (.bool o.reply.ok) ∧ w'.cell? ⟨b, off + j * 11 + 8, none⟩ = some (.int .u64 o.reply.value) ∧ w'.cell? ⟨b, off + j * 11 + 9, none⟩ = some (.int .i64 o.reply.stamp.lo) ∧ w'.cell? ⟨b, off + j * 11 + 10, none⟩ = some (.int .i64 o.reply.stamp.hi))) (by kernel_rfl) ?_ (fun hHeld => ?_)
                      · ((try dsimp only); (first | exact ⟨K.out.rd 0 rfl, SX.out _ K.out.below 0 _ rfl, SX.out _ K.out.below 1 _ rfl, SX.out _ K.out.below 2 _ rfl, SX.out _ K.out.below 3 _ rfl, SX.out _ K.out.below 4 _ rfl, SX.out _ K.out.below 5 _ rfl, SX.out _ K.out.below 6 _ rfl, SX.out _ K.out.below 7 _ rfl, SX.out _ K.out.below 8 _ rfl, SX.out _ K.out.below 9 _ rfl, SX.out _ K.out.below 10 _ rfl⟩ | exact ⟨K.out.drew.rd 0 rfl, SX.out _ K.out.drew.below 0 _ rfl, SX.out _ K.out.drew.below 1 _ rfl, SX.out _ K.out.drew.below 2 _ rfl, SX.out _ K.out.drew.below 3 _ rfl, SX.out _ K.out.drew.below 4 _ rfl, SX.out _ K.out.drew.below 5 _ rfl, SX.out _ K.out.drew.below 6 _ rfl, SX.out _ K.out.drew.below 7 _ rfl, SX.out _ K.out.drew.below 8 _ rfl, SX.out _ K.out.drew.below 9 _ rfl, SX.out _ K.out.drew.below 10 _ rfl⟩))
                      refine tk 0 (some 91) ?_
                      (try simp only [Act.put, p0, p1, p2])
                      refine tk 1 (some 92) ?_
                      (try simp only [Act.put, p0, p1, p2])
                      refine tk 2 (some 93) ?_
                      (try simp only [Act.put, p0, p1, p2])
                      refine tk 3 (some 94) ?_
                      (try simp only [Act.put, p0, p1, p2])
                      refine tk 4 (some 95) ?_
                      (try simp only [Act.put, p0, p1, p2])
                      refine tk 5 (some 96) ?_
                      (try simp only [Act.put, p0, p1, p2])
                      refine tk 6 (some 97) ?_
                      (try simp only [Act.put, p0, p1, p2])
                      refine tk 7 (some 98) ?_
                      (try simp only [Act.put, p0, p1, p2])
                      refine wpAnyH_ready (rs := [8]) (by kernel_rfl) (by simp) ?_
                      refine AllReadyH.cons (o := _) rfl (fun kC hkC => ?_) AllReadyH.nil
                      go_simp
                      (first | (go_at_call 82; (with_reducible refine ((BF _).out).mono ?_); rintro e w1 ⟨rfl, hb⟩; have K1 := sat.grown (show sat _ _ _ from by first | exact K.out | exact K.out.drew) hb; clear hb; have K2 := Lib.hid K1; clear K1 K; (try clear a0); (try clear l0); (try clear f0); (try clear a1); (try clear l1); (try clear f1); (try clear a2); (try clear l2); (try clear f2); (try clear a3); (try clear l3); (try clear f3); (try clear a4); (try clear l4); (try clear f4); (try clear a5); (try clear l5); (try clear f5); have K := K2; clear K2; (try have a0 := K.out.rd 0 rfl); (try have l0 := K.out.ltp 0 rfl); (try have f0 := K.out.fr 0 rfl); (try have a1 := K.out.rd 1 rfl); (try have l1 := K.out.ltp 1 rfl); (try have f1 := K.out.fr 1 rfl); (try have a2 := K.out.rd 2 rfl); (try have l2 := K.out.ltp 2 rfl); (try have f2 := K.out.fr 2 rfl); (try have a3 := K.out.rd 3 rfl); (try have l3 := K.out.ltp 3 rfl); (try have f3 := K.out.fr 3 rfl)))
                      refine shown hkC _ _ (by (try dsimp only); (first | exact ⟨K.out.rd 0 rfl, SX.out _ K.out.below 0 _ rfl, SX.out _ K.out.below 1 _ rfl, SX.out _ K.out.below 2 _ rfl, SX.out _ K.out.below 3 _ rfl, SX.out _ K.out.below 4 _ rfl, SX.out _ K.out.below 5 _ rfl, SX.out _ K.out.below 6 _ rfl, SX.out _ K.out.below 7 _ rfl, SX.out _ K.out.below 8 _ rfl, SX.out _ K.out.below 9 _ rfl, SX.out _ K.out.below 10 _ rfl⟩ | exact ⟨K.out.drew.rd 0 rfl, SX.out _ K.out.drew.below 0 _ rfl, SX.out _ K.out.drew.below 1 _ rfl, SX.out _ K.out.drew.below 2 _ rfl, SX.out _ K.out.drew.below 3 _ rfl, SX.out _ K.out.drew.below 4 _ rfl, SX.out _ K.out.drew.below 5 _ rfl, SX.out _ K.out.drew.below 6 _ rfl, SX.out _ K.out.drew.below 7 _ rfl, SX.out _ K.out.drew.below 8 _ rfl, SX.out _ K.out.drew.below 9 _ rfl, SX.out _ K.out.drew.below 10 _ rfl⟩)) ?_; clear hkC kC hHeld; intro hHeld
                      (try simp only [Act.put, p0, p1, p2])
                      refine tk 9 (some 100) ?_
                      (try simp only [Act.put, p0, p1, p2])
                      refine tk 10 (some 101) ?_
                      (try simp only [Act.put, p0, p1, p2])
                      refine wpAnyH_done (by kernel_rfl) (NoPanic.normal ?_) _
                      go_wp2
                      go_roundg gk'
                      case measure => omega
                      case rel => exact ⟨(m + 1) + 1, by have := HN.out; omega, by simp, E8.out, (show sat w _ _ from by first | exact K.out | exact K.out.drew).below⟩
                    | false =>
                      rw [hbf] at BF
                      have E8 := Lib.hid (show lrightM [] l = false from by rw [E7.out, hbf]; rfl)
                      clear hbf
                      go_wp2_with fail
                      refine wp_region_noPanic ?_
                      refine wp_region_held_drew (S := (fun w' => (∀ i, w'.cell? ⟨gd, i, none⟩ = d.v[i]?) ∧ w'.cell? ⟨b, off + j * 11, none⟩ = some (.int .i64 o.who) ∧ w'.cell? ⟨b, off + j * 11 + 1, none⟩ = some (.int .i64 o.call.kind) ∧ w'.cell? ⟨b, off + j * 11 + 2, none⟩ = some (.int .i64 o.call.fin) ∧ w'.cell? ⟨b, off + j * 11 + 3, none⟩ = some (.int .u64 o.call.value) ∧ w'.cell? ⟨b, off + j * 11 + 4, none⟩ = some (.int .i64 o.call.start) ∧ w'.cell? ⟨b, off + j * 11 + 5, none⟩ = some (.int .i64 o.start) ∧ w'.cell? ⟨b, off + j * 11 + 6, none⟩ = some (.int .i64 o.stop) ∧ w'.cell? ⟨b, off + j * 11 + 7, none⟩ = some (.bool o.reply.ok) ∧ w'.cell? ⟨b, off + j * 11 + 8, none⟩ = some (.int .u64 o.reply.value) ∧ w'.cell? ⟨b, off + j * 11 + 9, none⟩ = some (.int .i64 o.reply.stamp.lo) ∧ w'.cell? ⟨b, off + j * 11 + 10, none⟩ = some (.int .i64 o.reply.stamp.hi))) (by kernel_rfl) ?_ (fun hHeld => ?_)
                      · ((try dsimp only); (first | exact ⟨K.out.rd 0 rfl, SX.out _ K.out.below 0 _ rfl, SX.out _ K.out.below 1 _ rfl, SX.out _ K.out.below 2 _ rfl, SX.out _ K.out.below 3 _ rfl, SX.out _ K.out.below 4 _ rfl, SX.out _ K.out.below 5 _ rfl, SX.out _ K.out.below 6 _ rfl, SX.out _ K.out.below 7 _ rfl, SX.out _ K.out.below 8 _ rfl, SX.out _ K.out.below 9 _ rfl, SX.out _ K.out.below 10 _ rfl⟩ | exact ⟨K.out.drew.rd 0 rfl, SX.out _ K.out.drew.below 0 _ rfl, SX.out _ K.out.drew.below 1 _ rfl, SX.out _ K.out.drew.below 2 _ rfl, SX.out _ K.out.drew.below 3 _ rfl, SX.out _ K.out.drew.below 4 _ rfl, SX.out _ K.out.drew.below 5 _ rfl, SX.out _ K.out.drew.below 6 _ rfl, SX.out _ K.out.drew.below 7 _ rfl, SX.out _ K.out.drew.below 8 _ rfl, SX.out _ K.out.drew.below 9 _ rfl, SX.out _ K.out.drew.below 10 _ rfl⟩))
                      refine tk 0 (some 91) ?_
                      (try simp only [Act.put, p0, p1, p2])
                      refine tk 1 (some 92) ?_
                      (try simp only [Act.put, p0, p1, p2])
                      refine tk 2 (some 93) ?_
                      (try simp only [Act.put, p0, p1, p2])
                      refine tk 3 (some 94) ?_
                      (try simp only [Act.put, p0, p1, p2])
                      refine tk 4 (some 95) ?_
                      (try simp only [Act.put, p0, p1, p2])
                      refine tk 5 (some 96) ?_
                      (try simp only [Act.put, p0, p1, p2])
                      refine tk 6 (some 97) ?_
                      (try simp only [Act.put, p0, p1, p2])
                      refine tk 7 (some 98) ?_
                      (try simp only [Act.put, p0, p1, p2])
                      refine wpAnyH_ready (rs := [8]) (by kernel_rfl) (by simp) ?_
                      refine AllReadyH.cons (o := _) rfl (fun kC hkC => ?_) AllReadyH.nil
                      go_simp
                      (first | (go_at_call 82; (with_reducible refine ((BF _).out).mono ?_); rintro e w1 ⟨rfl, hb⟩; have K1 := sat.grown (show sat _ _ _ from by first | exact K.out | exact K.out.drew) hb; clear hb; have K2 := Lib.hid K1; clear K1 K; (try clear a0); (try clear l0); (try clear f0); (try clear a1); (try clear l1); (try clear f1); (try clear a2); (try clear l2); (try clear f2); (try clear a3); (try clear l3); (try clear f3); (try clear a4); (try clear l4); (try clear f4); (try clear a5); (try clear l5); (try clear f5); have K := K2; clear K2; (try have a0 := K.out.rd 0 rfl); (try have l0 := K.out.ltp 0 rfl); (try have f0 := K.out.fr 0 rfl); (try have a1 := K.out.rd 1 rfl); (try have l1 := K.out.ltp 1 rfl); (try have f1 := K.out.fr 1 rfl); (try have a2 := K.out.rd 2 rfl); (try have l2 := K.out.ltp 2 rfl); (try have f2 := K.out.fr 2 rfl); (try have a3 := K.out.rd 3 rfl); (try have l3 := K.out.ltp 3 rfl); (try have f3 := K.out.fr 3 rfl)))
                      refine shown hkC _ _ (by (try dsimp only); (first | exact ⟨K.out.rd 0 rfl, SX.out _ K.out.below 0 _ rfl, SX.out _ K.out.below 1 _ rfl, SX.out _ K.out.below 2 _ rfl, SX.out _ K.out.below 3 _ rfl, SX.out _ K.out.below 4 _ rfl, SX.out _ K.out.below 5 _ rfl, SX.out _ K.out.below 6 _ rfl, SX.out _ K.out.below 7 _ rfl, SX.out _ K.out.below 8 _ rfl, SX.out _ K.out.below 9 _ rfl, SX.out _ K.out.below 10 _ rfl⟩ | exact ⟨K.out.drew.rd 0 rfl, SX.out _ K.out.drew.below 0 _ rfl, SX.out _ K.out.drew.below 1 _ rfl, SX.out _ K.out.drew.below 2 _ rfl, SX.out _ K.out.drew.below 3 _ rfl, SX.out _ K.out.drew.below 4 _ rfl, SX.out _ K.out.drew.below 5 _ rfl, SX.out _ K.out.drew.below 6 _ rfl, SX.out _ K.out.drew.below 7 _ rfl, SX.out _ K.out.drew.below 8 _ rfl, SX.out _ K.out.drew.below 9 _ rfl, SX.out _ K.out.drew.below 10 _ rfl⟩)) ?_; clear hkC kC hHeld; intro hHeld
                      (try simp only [Act.put, p0, p1, p2])
                      refine tk 9 (some 100) ?_
                      (try simp only [Act.put, p0, p1, p2])
                      refine tk 10 (some 101) ?_
                      (try simp only [Act.put, p0, p1, p2])
                      refine wpAnyH_done (by kernel_rfl) (NoPanic.normal ?_) _
                      go_wp2
                      go_ret
                      exact ⟨ret_b E8.out.symm, (show sat w _ _ from by first | exact K.out | exact K.out.drew).below⟩
    · have hnl : n = l.length := by omega
      subst hnl
      have d0 : decide (l.length < l.length) = false := by simp
      have E3 := Lib.hid (show lrightM [] l = true from by rw [hr, List.drop_length]; rfl)
      clear hr
      go_wp2
      go_ret
      exact ⟨ret_b E3.out.symm, K.out.below⟩
end Go.Proofs.YtdjkblnocooldaaGreat
