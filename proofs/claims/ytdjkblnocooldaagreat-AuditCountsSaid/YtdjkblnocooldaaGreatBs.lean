/- Several texts in one: AuditGy AuditHy. Each says ahead of it what it shows. -/
import Derived.Test.YtdjkblnocooldaaGreatBr
import Derived.Test.YtdjkblnocooldaaGreatBj
import Derived.Test.YtdjkblnocooldaaGreatBt
import Derived.Test.YtdjkblnocooldaaGreatBc
import Derived.Test.YtdjkblnocooldaaGreatBd
set_option linter.unusedVariables false
set_option linter.unusedSimpArgs false
/- The first event that may not be, as the statement itself reckons it (stackyardlaw17.may and first). Conditions: a Right layout; the events lie in memory as told; numbers within their kinds. -/
namespace Go.Proofs.YtdjkblnocooldaaGreat
open Go.RowKit Go.SepYtdjkblnocooldaaGreat Go.Maps
set_option maxRecDepth 100000
set_option maxHeartbeats 4000000
theorem lmay_true (c : ConfM) (hc : c.ok) (p : Option Addr) (l : List Ev) (cap : Nat) (e : Ev) (w : World) (hl : l.length ≤ 1000000) (hwf : ∀ e ∈ l, Ev.wf e) (he : Ev.wf e) (hk : okM c l e = true) (h : OldE w p l) :
    Tells 89 #[.agg #[.int .i64 c.th, .int .i64 c.sl, .int .i64 c.src, .int .i64 c.dl], .slice p l.length cap, .agg e.v.toArray] w (.bool true) := by
  rw [← hk]
  obtain ⟨⟨h0, h1⟩, h2, h3⟩ := okM_may hk
  have hw : ¬(e.who < 0 ∨ c.th ≤ e.who) := by omega
  have h4 : e.old = lastM l e.cell := by
    have hk' := hk
    unfold okM at hk'
    rw [Bool.and_eq_true] at hk'
    simpa using hk'.1
  by_cases k1 : e.cell < c.all
  · have ew := ok_word hw h4 (kindM_w hc h2 k1)
    rw [ew]
    by_cases o0 : e.op = 0
    · exact lmay_word0 c hc p l cap e w hl hwf he h h0 h1 h2 h3 h4 k1 o0
    by_cases o1 : e.op = 1
    · exact lmay_word1 c hc p l cap e w hl hwf he h h0 h1 h2 h3 h4 k1 o1
    by_cases o2 : e.op = 2
    · exact lmay_word2 c hc p l cap e w hl hwf he h h0 h1 h2 h3 h4 k1 o2
    rw [ew] at hk
    unfold wordB at hk
    rw [if_neg o0, if_neg o1, if_neg o2] at hk
    cases hk
  replace k1 : c.all ≤ e.cell := by omega
  by_cases k2 : e.cell < 2 * c.all
  · have ev := ok_value hw h4 (kindM_v hc k1 k2)
    rw [ev]
    rw [ev] at hk
    unfold valueB at hk
    by_cases o0 : e.op = 0
    · rw [if_pos o0] at hk
      cases hld : loadedM l e.who (e.cell - c.all) with
      | none =>
        have : rdM l e.who (e.cell - c.all) = none := by unfold rdM; rw [hld]; rfl
        rw [this] at hk
        cases hk
      | some x =>
        have : rdM l e.who (e.cell - c.all) = some (unpack x).gen := by unfold rdM; rw [hld]; rfl
        rw [this] at hk
        simp only [Bool.and_eq_true, beq_iff_eq] at hk
        exact lmay_value0t c hc p l cap e w hl hwf he h h0 h1 h2 h3 h4 k1 k2 o0 x hld hk.1 hk.2
    rw [if_neg o0] at hk
    by_cases o1 : e.op = 1
    · rw [if_pos o1] at hk
      have ho : e.who = ownerM c (e.cell - c.all) := by
        simp only [Bool.and_eq_true, beq_iff_eq] at hk
        exact hk.1
      exact lmay_value1t c hc p l cap e w hl hwf he h h0 h1 h2 h3 h4 k1 k2 o1 ho
    rw [if_neg o1] at hk
    cases hk
  replace k2 : 2 * c.all ≤ e.cell := by omega
  by_cases k3 : e.cell < 2 * c.all + c.th
  · rw [ok_hazard hw h4 (kindM_h hc k2 k3)]
    exact lmay_hazard c hc p l cap e w hl hwf he h h0 h1 h2 h3 h4 k2 k3
  replace k3 : 2 * c.all + c.th ≤ e.cell := by omega
  have en := ok_number hw h4 (kindM_n hc k3 h3)
  rw [en]
  by_cases s0 : c.src = 0
  · exact lmay_number0 c hc p l cap e w hl hwf he h h0 h1 h2 h3 h4 k3 s0
  by_cases s1 : c.src = 1
  · exact lmay_number1 c hc p l cap e w hl hwf he h h0 h1 h2 h3 h4 k3 s1
  by_cases s2 : c.src = 2
  · exact lmay_number2 c hc p l cap e w hl hwf he h h0 h1 h2 h3 h4 k3 s2
  rw [en] at hk
  unfold numberB at hk
  rw [if_neg s0, if_neg s1, if_neg s2] at hk
  cases hk
theorem lfirst_true (c : ConfM) (hc : c.ok) (p : Option Addr) (l : List Ev) (cap : Nat) (w : World) (hl : l.length ≤ 1000000) (hcap : l.length ≤ cap) (hwf : ∀ e ∈ l, Ev.wf e) (hf : firstM c [] l = -1) (h : OldE w p l) :
    Tells 59 #[.agg #[.int .i64 c.th, .int .i64 c.sl, .int .i64 c.src, .int .i64 c.dl], .slice p l.length cap] w (.int .i64 (-1)) := by
  have K := Lib.hid (sat.start w)
  have H := Lib.hid h
  have HW := Lib.hid hwf
  have HF := Lib.hid hf
  clear h hwf hf
  go_enter Tryz.func59, Tryz.ntmps59
  go_wp2_with (first | ((with_reducible refine at_box ?_); refine st_boxf K.out rfl rfl (fun _ => rfl) ?_; intro gc w1 K1; have K2 := Lib.hid K1; clear K1 K; (try clear a0); (try clear l0); (try clear a1); (try clear l1); (try clear a2); (try clear l2); have K := K2; clear K2; have a0 := K.out.rd 0 rfl; have l0 := K.out.ltp 0 rfl))
  go_loopg [9] l.length (fun gk i w' => ∃ n : Nat, n + gk = l.length ∧ i = .int .i64 n ∧ firstM c [] l = firstM c (l.take n) (l.drop n) ∧ sat w w' [pt gc (.cells [.int .i64 c.th, .int .i64 c.sl, .int .i64 c.src, .int .i64 c.dl].toArray 26 (0, 0))])
  case atStart => exact ⟨0, by simp, rfl, by simp, K.out⟩
  case round =>
    obtain ⟨n, hn, rfl, hfi, hs⟩ := hrel
    clear K a0 l0
    have K := Lib.hid hs
    clear hs
    have a0 := K.out.rd 0 rfl
    have l0 := K.out.ltp 0 rfl
    by_cases hlt : n < l.length
    · have d0 : decide (n < l.length) = true := by simpa using hlt
      have HP := Lib.hid (H.out.take n)
      obtain ⟨b, off, rfl, hb0, hx0⟩ := H.out n hlt
      have hx : ∀ i u, (Ev.v l[n])[i]? = some u → wr.cell? ⟨b, off + n * 6 + i, none⟩ = some u := fun i u hi => (K.out.below.cell (p := ⟨b, off + n * 6 + i, none⟩) hb0).trans (hx0 i u hi)
      have y0 : wr.cell? ⟨b, off + n * 6, none⟩ = _ := hx 0 _ rfl
      have y1 := hx 1 _ rfl
      have y2 := hx 2 _ rfl
      have y3 := hx 3 _ rfl
      have y4 := hx 4 _ rfl
      have y5 := hx 5 _ rfl
      have hwn := HW.out l[n] (List.getElem_mem hlt)
      have hlen : (l.take n).length = n := by rw [List.length_take]; omega
      have E1 := Lib.hid (show firstM c [] l = if okM c (l.take n) l[n] then firstM c (l.take (n + 1)) (l.drop (n + 1)) else (n : Int) from by
        rw [hfi, List.drop_eq_getElem_cons hlt, firstM, ← List.take_succ_eq_append_getElem hlt, List.length_take, Nat.min_eq_left (by omega)])
      have hok : okM c (l.take n) l[n] = true := by
        cases q : okM c (l.take n) l[n] with
        | true => rfl
        | false =>
          have h1 := E1.out
          rw [q, HF.out] at h1
          have h2 : (-1 : Int) = (n : Int) := h1
          omega
      have MC := fun w' (hb : Below w.heap.size w w') => Lib.hid (lmay_true c hc (some ⟨b, off, none⟩) (l.take n) cap l[n] w' (by omega) (fun e he => HW.out e (List.mem_of_mem_take he)) hwn hok (HP.out.grown hb))
      rw [hlen] at MC
      have HN := Lib.hid hn
      have b0 : (0 : Int) ≤ (n : Int) := by omega
      have b1 : (n : Int) ≤ (cap : Int) := by omega
      have b2 : n ≤ cap := by omega
      clear hx hx0 hn hfi hwn hlen
      rw [hok] at E1
      clear hok
      generalize l[n] = e at *
      obtain ⟨gk', rfl⟩ : ∃ g', gk = g' + 1 := ⟨gk - 1, by have := HN.out; omega⟩
      go_wp2_with (first | ((with_reducible refine at_alloc ?_); refine st_allocf K.out (fun _ => rfl) ?_; intro ge w1 K1; have K2 := Lib.hid K1; clear K1 K; (try clear a0); (try clear l0); (try clear a1); (try clear l1); (try clear a2); (try clear l2); have K := K2; clear K2; have a0 := K.out.rd 0 rfl; have l0 := K.out.ltp 0 rfl; have a1 := K.out.rd 1 rfl; have l1 := K.out.ltp 1 rfl) | ((with_reducible refine at_store ?_); refine st_store 0 K.out rfl rfl rfl rfl ?_ ?_ ?_ ?_; (· kernel_rfl); (· simp); (· simp [Value.oneCell']); intro w1 K1; simp only [List.set, putL] at K1; have K2 := Lib.hid K1; clear K1 K; (try clear a0); (try clear l0); (try clear a1); (try clear l1); (try clear a2); (try clear l2); have K := K2; clear K2; have a0 := K.out.rd 0 rfl; have l0 := K.out.ltp 0 rfl; have a1 := K.out.rd 1 rfl; have l1 := K.out.ltp 1 rfl))
      refine wp_region_noPanic ?_
      refine wp_region_held_drew (S := (fun w' => (∀ j, w'.cell? ⟨ge, j, none⟩ = e.v[j]?) ∧ (∀ j, w'.cell? ⟨gc, j, none⟩ = [Value.int .i64 c.th, .int .i64 c.sl, .int .i64 c.src, .int .i64 c.dl][j]?))) (by kernel_rfl) ?_ (fun hHeld => ?_)
      · ((try dsimp only); (refine lawS (E := w) (M := []) ?_; first | exact K.out | exact K.out.drew))
      refine tk 0 (some 14) ?_
      (try simp only [Act.put, p0, p1, p2])
      refine tk 1 (some 15) ?_
      (try simp only [Act.put, p0, p1, p2])
      refine tk 2 (some 16) ?_
      (try simp only [Act.put, p0, p1, p2])
      refine tk 3 (some 17) ?_
      (try simp only [Act.put, p0, p1, p2])
      refine tk 4 (some 18) ?_
      (try simp only [Act.put, p0, p1, p2])
      refine wpAnyH_ready (rs := [5]) (by kernel_rfl) (by simp) ?_
      refine AllReadyH.cons (o := _) rfl (fun kC hkC => ?_) AllReadyH.nil
      go_simp
      (first | (go_at_call 89; (with_reducible refine ((MC _ K.out.drew.below).out).mono ?_); rintro e w1 ⟨rfl, hb⟩; have K1 := sat.grown (show sat _ _ _ from by first | exact K.out | exact K.out.drew) hb; clear hb; have K2 := Lib.hid K1; clear K1 K; (try clear a0); (try clear l0); (try clear f0); (try clear a1); (try clear l1); (try clear f1); (try clear a2); (try clear l2); (try clear f2); (try clear a3); (try clear l3); (try clear f3); (try clear a4); (try clear l4); (try clear f4); (try clear a5); (try clear l5); (try clear f5); have K := K2; clear K2; (try have a0 := K.out.rd 0 rfl); (try have l0 := K.out.ltp 0 rfl); (try have f0 := K.out.fr 0 rfl); (try have a1 := K.out.rd 1 rfl); (try have l1 := K.out.ltp 1 rfl); (try have f1 := K.out.fr 1 rfl); (try have a2 := K.out.rd 2 rfl); (try have l2 := K.out.ltp 2 rfl); (try have f2 := K.out.fr 2 rfl); (try have a3 := K.out.rd 3 rfl); (try have l3 := K.out.ltp 3 rfl); (try have f3 := K.out.fr 3 rfl)))
      refine shown hkC _ _ (by (try dsimp only); (refine lawS (E := w) (M := []) ?_; first | exact K.out | exact K.out.drew)) ?_; clear hkC kC hHeld; intro hHeld
      (try simp only [Act.put, p0, p1, p2])
      refine tk 6 (some 20) ?_
      (try simp only [Act.put, p0, p1, p2])
      refine wpAnyH_done (by kernel_rfl) (NoPanic.normal ?_) _
      go_wp2
      go_roundg gk'
      case measure => omega
      case rel => exact ⟨n + 1, by have := HN.out; omega, by simp, by rw [E1.out]; simp, K.out.drop⟩
    · have hnl : n = l.length := by omega
      subst hnl
      have d0 : decide (l.length < l.length) = false := by simp
      have E1 := Lib.hid (show firstM c [] l = -1 from by rw [hfi, List.drop_length]; rfl)
      clear hfi
      go_wp2
      go_ret
      exact ⟨rfl, K.out.below⟩
end Go.Proofs.YtdjkblnocooldaaGreat
/- The example that stands ahead of each statement of audit (head); events of a row of one's own. No condition. -/
namespace Go.Proofs.YtdjkblnocooldaaGreat
open Go.RowKit Go.SepYtdjkblnocooldaaGreat Go.Maps
set_option maxRecDepth 100000
set_option maxHeartbeats 4000000
theorem oldE_one {E w : World} {L : List SA} {g t : Nat} {f : Nat × Nat} {e : Ev} (h : sat E w (pt g (.cells e.v.toArray t f) :: L)) : OldE w (some ⟨g, 0, none⟩) [e] := fun j hj => by
  obtain rfl : j = 0 := by simp at hj; exact hj
  refine ⟨g, 0, rfl, h.lt, fun i u hi => ?_⟩
  rw [show 0 + 0 * 6 + i = i by omega, h.rd 0 rfl i]
  exact hi
theorem head17_calls (w : World) : Tells 56 #[] w (.bool true) := by
  have K := Lib.hid (sat.start w)
  have PK := fun w' => Lib.hid (show Tells 87 #[.agg #[.int .i64 1, .int .i64 0, .int .i64 1, .int .i64 0, .int .i64 0]] w' (.int .u64 9) from pack_calls ⟨1, 0, 1, ⟨0, 0⟩⟩ w')
  have F1 := fun w' p (h : OldE w' p [⟨1, 1, 0, 0, 9, true⟩]) => Lib.hid (show Tells 58 #[.agg #[.int .i64 2, .int .i64 1, .int .i64 0, .int .i64 0], .slice p 1 1] w' (.int .i64 0) from afirst_calls ⟨2, 1, 0, 0⟩ (by constructor <;> decide) p [⟨1, 1, 0, 0, 9, true⟩] 1 w' (by decide) (by intro e he; obtain rfl := List.mem_singleton.1 he; unfold Ev.wf; dsimp only; omega) h)
  have F2 := fun w' p (h : OldE w' p [⟨0, 1, 0, 0, 9, true⟩]) => Lib.hid (show Tells 58 #[.agg #[.int .i64 2, .int .i64 1, .int .i64 0, .int .i64 0], .slice p 1 1] w' (.int .i64 (-1)) from afirst_calls ⟨2, 1, 0, 0⟩ (by constructor <;> decide) p [⟨0, 1, 0, 0, 9, true⟩] 1 w' (by decide) (by intro e he; obtain rfl := List.mem_singleton.1 he; unfold Ev.wf; dsimp only; omega) h)
  go_enter Tryz.func56, Tryz.ntmps56
  go_wp2_with (first | ((with_reducible refine at_alloc ?_); refine st_allocf K.out (fun _ => rfl) ?_; intro gc w1 K1; have K2 := Lib.hid K1; clear K1 K; (try clear a0); (try clear l0); (try clear a1); (try clear l1); (try clear a2); (try clear l2); have K := K2; clear K2; have a0 := K.out.rd 0 rfl; have l0 := K.out.ltp 0 rfl) | ((with_reducible refine at_store ?_); refine st_store 0 K.out rfl rfl rfl rfl ?_ ?_ ?_ ?_; (· kernel_rfl); (· simp); (· simp [Value.oneCell']); intro w1 K1; simp only [List.set, putL] at K1; have K2 := Lib.hid K1; clear K1 K; (try clear a0); (try clear l0); (try clear a1); (try clear l1); (try clear a2); (try clear l2); have K := K2; clear K2; have a0 := K.out.rd 0 rfl; have l0 := K.out.ltp 0 rfl) | (go_at_call 87; (with_reducible refine ((PK _).out).mono ?_); rintro e w1 ⟨rfl, hb⟩; have K1 := sat.grown (by repeat (with_reducible first | exact K.out | apply sat.alloc_any | apply sat.drew | apply sat.drewN)) hb; clear hb; have K2 := Lib.hid K1; clear K1 K; (try clear a0); (try clear l0); (try clear a1); (try clear l1); (try clear a2); (try clear l2); have K := K2; clear K2; have a0 := K.out.rd 0 rfl; have l0 := K.out.ltp 0 rfl) | (have _hp := qF1; have KA : sat w (World.alloc _ (.cells #[.int .i64 0, .int .i64 1, .int .i64 0, .int .u64 0, .int .u64 9, .bool true] 55)) _ := K.out.alloc _; have o1 := oldE_one (e := ⟨0, 1, 0, 0, 9, true⟩) KA; go_at_call 58; (with_reducible refine ((F2 _ _ o1).out).mono ?_); rintro r w1 ⟨rfl, hb⟩; have K1 := (sat.grown KA hb).drop; clear KA o1 hb; have K2 := Lib.hid K1; clear K1 K; (try clear a0); (try clear l0); (try clear a1); (try clear l1); (try clear a2); (try clear l2); have K := K2; clear K2; have a0 := K.out.rd 0 rfl; have l0 := K.out.ltp 0 rfl; have qF2 := true) | (have KA : sat w (World.alloc _ (.cells #[.int .i64 1, .int .i64 1, .int .i64 0, .int .u64 0, .int .u64 9, .bool true] 55)) _ := K.out.alloc _; have o1 := oldE_one (e := ⟨1, 1, 0, 0, 9, true⟩) KA; go_at_call 58; (with_reducible refine ((F1 _ _ o1).out).mono ?_); rintro r w1 ⟨rfl, hb⟩; have K1 := (sat.grown KA hb).drop; clear KA o1 hb; have K2 := Lib.hid K1; clear K1 K; (try clear a0); (try clear l0); (try clear a1); (try clear l1); (try clear a2); (try clear l2); have K := K2; clear K2; have a0 := K.out.rd 0 rfl; have l0 := K.out.ltp 0 rfl; have qF1 := true))
  go_ret
  exact ⟨rfl, K.out.below⟩
theorem oldE_rowY {E w : World} {L : List SA} {p : Option Addr} {n c t : Nat} {l : List Ev} (h : sat E w (rowA (.slice p n c) t 6 l.length (evCells l) :: L)) : OldE w p l := oldS_row ev_sz h
theorem row_capE {E w : World} {L : List SA} {p : Option Addr} {m c e size n : Nat} {xs : List Value} (h : sat E w (rowA (.slice p m c) e size n xs :: L)) : n ≤ c := by
  obtain ⟨_, ⟨h0, h1, _⟩ | ⟨g, cap, cur, h0, h1, _⟩⟩ := h.row_open
  · simp at h0; omega
  · simp at h0; omega
end Go.Proofs.YtdjkblnocooldaaGreat
