/- Whether calls may have been done so (hist.Right). Conditions: the deeds lie in memory as told; numbers within their kinds; at most a million deeds. -/
import Derived.Test.YthlipcejeeoacabHistB
import Derived.Test.YthlipcejeeoacabRightM
import Derived.Test.YthlipcejeeoacabMapV
namespace Go.Proofs.Ythlipcejeeoacab
open Go.RowKit Go.SepYthlipcejeeoacab Go.Maps
set_option linter.unusedSimpArgs false
set_option linter.unusedVariables false
set_option maxRecDepth 100000
set_option maxHeartbeats 4000000
theorem keyedJ : Keyed Try.prog 3 := int_keyed Try.underlying3
theorem keyJ {v : Int} (h : w64P v) : keyOf Try.prog 3 (.int .i64 v) = some (.int .i64 v) := keyOf_int_mk Try.underlying3 (wf64 h)
abbrev deedZ : Value := .agg #[.int .i64 0, .int .i64 0, .int .i64 0, .int .u64 0, .int .i64 0, .int .i64 0, .int .i64 0, .bool false, .int .u64 0, .int .i64 0, .int .i64 0]
theorem zeroD : ∀ w : World, (zeroValue 35).run Try.prog w = .ok deedZ w := fun w => by kernel_rfl
theorem zeroUn : ∀ w : World, (zeroValue 47).run Try.prog w = .ok (.agg #[]) w := fun w => by kernel_rfl
theorem okDeed (d : DeedM) : okV (deedV d) = true := rfl
abbrev timeA (b n : Nat) (f : Lit → Option Value) : SA := mapV Try.prog 3 b n f
theorem callr_calls (c : CallM) (w : World) : Tells 14 #[.agg #[.int .i64 c.kind, .int .i64 c.fin, .int .u64 c.value, .int .i64 c.start]] w (.bool c.right) := by
  have K := Lib.hid (sat.start w)
  unfold CallM.right
  go_enter Try.func14, Try.ntmps14
  go_wp2_with (first | ((with_reducible refine at_box ?_); refine st_boxf K.out rfl rfl (fun _ => rfl) ?_; intro gc w1 K1; have K2 := Lib.hid K1; clear K1 K; (try clear a0); (try clear l0); (try clear a1); (try clear l1); (try clear a2); (try clear l2); have K := K2; clear K2; have a0 := K.out.rd 0 rfl; have l0 := K.out.ltp 0 rfl))
  all_goals (go_ret; exact ⟨ret_b (by rw [Bool.eq_iff_iff]; simp_all), K.out.below⟩)
/-- The times that were seen. -/
def Seen (f : Lit → Option Value) (s : Int → Bool) : Prop := ∀ t, f (.int .i64 t) = if s t then some (.agg #[]) else none
theorem Seen.put {f : Lit → Option Value} {s : Int → Bool} (h : Seen f s) (x : Int) : Seen (updV f (.int .i64 x) (.agg #[])) (fun t => s t || x == t) := fun t => by
  by_cases e : t = x
  · subst e; rw [updV_same]; simp
  · rw [updV_other _ _ _ (by intro hh; injection hh with _ hh; exact e hh), h t]
    show _ = if (s t || x == t) = true then _ else _
    rw [show (x == t) = false by simp; exact fun q => e q.symm, Bool.or_false]
theorem Seen.hit {f : Lit → Option Value} {s : Int → Bool} (h : Seen f s) {x : Int} (hx : s x = true) : (f (.int .i64 x)).getD (.agg #[]) = .agg #[] ∧ (f (.int .i64 x)).isSome = true := by rw [h x, hx]; exact ⟨rfl, rfl⟩
theorem Seen.miss {f : Lit → Option Value} {s : Int → Bool} (h : Seen f s) {x : Int} (hx : s x = false) : (f (.int .i64 x)).getD (.agg #[]) = .agg #[] ∧ (f (.int .i64 x)).isSome = false := by rw [h x, hx]; exact ⟨rfl, rfl⟩
def okS (pre : List DeedM) (d : DeedM) : Bool := okT pre d.stop && (decide (d.stop < 0) || d.start != d.stop)
theorem okT_neg {pre : List DeedM} {t : Int} (h : ¬ 0 ≤ t) : okT pre t = true := by unfold okT; simp; left; omega
theorem okT_not {pre : List DeedM} {t : Int} (h : inT pre t = false) : okT pre t = true := by unfold okT; rw [h]; simp
theorem okT_bad {pre : List DeedM} {t : Int} (h : inT pre t = true) (h0 : 0 ≤ t) : okT pre t = false := by unfold okT; rw [h]; simp; omega
theorem okS_neg {pre : List DeedM} {d : DeedM} (h : ¬ 0 ≤ d.stop) : okS pre d = true := by unfold okS; rw [okT_neg h]; simp; left; omega
theorem okS_not {pre : List DeedM} {d : DeedM} (h : (inT pre d.stop || d.start == d.stop) = false) : okS pre d = true := by
  obtain ⟨h1, h2⟩ := Bool.or_eq_false_iff.1 h
  unfold okS; rw [okT_not h1, show (d.start != d.stop) = true by simpa using h2]; simp
theorem okS_bad {pre : List DeedM} {d : DeedM} (h : (inT pre d.stop || d.start == d.stop) = true) (h0 : 0 ≤ d.stop) : okS pre d = false := by
  unfold okS
  rcases Bool.or_eq_true_iff.1 h with h | h
  · rw [okT_bad h h0]; rfl
  · rw [show (d.start != d.stop) = false by simpa using h, show decide (d.stop < 0) = false by simp; omega]; simp
theorem okD_eq (pre : List DeedM) (d : DeedM) : okD pre d = (okHead pre d && okOwn pre d && okT pre d.start && okS pre d) := rfl
theorem Seen.congr {f : Lit → Option Value} {s s' : Int → Bool} (h : Seen f s) (e : ∀ t, s t = s' t) : Seen f s' := fun t => by rw [← e t]; exact h t
/-- Each thread's last deed. -/
def Lasts (f : Lit → Option Value) (l : List DeedM) : Prop := ∀ who, f (.int .i64 who) = (lastOf l who).map deedV
theorem Lasts.put {f : Lit → Option Value} {l : List DeedM} (h : Lasts f l) (d : DeedM) : Lasts (updV f (.int .i64 d.who) (deedV d)) (l ++ [d]) := fun who => by
  rw [lastOf_snoc]
  by_cases e : who = d.who
  · subst e; rw [updV_same]; simp
  · rw [updV_other _ _ _ (by intro hh; injection hh with _ hh; exact e hh), h who, if_neg (fun q => e q.symm)]
theorem over_before (a b : DeedM) : beforeD a b = overB a b := rfl
theorem right_calls (p : Option Addr) (l : List DeedM) (cap : Nat) (w : World) (hl : l.length ≤ 100000) (hwf : ∀ e ∈ l, DeedM.wf e) (h : OldD w p l) :
    Tells 7 #[.slice p l.length cap] w (.bool (rightM [] l)) := by
  have K := Lib.hid (sat.start w)
  have H := Lib.hid h
  have HW := Lib.hid hwf
  clear h hwf
  go_enter Try.func7, Try.ntmps7
  go_wp2_with (first | ((with_reducible refine at_makeMap' ?_); (first | (have _hp := gs; refine st_makeV 3 K.out ?_; intro gl w1 K1; have K2 := Lib.hid K1; clear K1 K; (try clear a0); (try clear l0); (try clear a1); (try clear l1); (try clear a2); (try clear l2); have K := K2; clear K2) | (refine st_makeV 3 K.out ?_; intro gs w1 K1; have K2 := Lib.hid K1; clear K1 K; (try clear a0); (try clear l0); (try clear a1); (try clear l1); (try clear a2); (try clear l2); have K := K2; clear K2))))
  go_loopg [18, 5] l.length (fun gk i fr w' => ∃ (n : Nat) (fs fl : Lit → Option Value), n + gk = l.length ∧ i = .int .i64 n ∧ fr = .int .i64 (lastFrom (l.take n)) ∧ rightM [] l = rightM (l.take n) (l.drop n) ∧ Seen fs (inT (l.take n)) ∧ Lasts fl (l.take n) ∧ sat w w' [timeA gl (2 * n) fl, timeA gs (2 * n) fs])
  case atStart => exact ⟨0, _, _, by simp, rfl, rfl, by simp, fun t => rfl, fun who => rfl, K.out⟩
  case round =>
    obtain ⟨n, fs, fl, hn, rfl, rfl, hr, hS, hL, hs⟩ := hrel
    clear K
    have K := Lib.hid hs
    clear hs
    by_cases hlt : n < l.length
    · have d0 : decide (n < l.length) = true := by simpa using hlt
      obtain ⟨b, off, rfl, hb0, hx0⟩ := H.out n hlt; have hx : ∀ i u, (DeedM.v l[n])[i]? = some u → wr.cell? ⟨b, off + n * 11 + i, none⟩ = some u := fun i u hi => (K.out.below.cell (p := ⟨b, off + n * 11 + i, none⟩) hb0).trans (hx0 i u hi); have y0 : wr.cell? ⟨b, off + n * 11, none⟩ = _ := hx 0 _ rfl; have y1 := hx 1 _ rfl; have y2 := hx 2 _ rfl; have y3 := hx 3 _ rfl; have y4 := hx 4 _ rfl; have y5 := hx 5 _ rfl; have y6 := hx 6 _ rfl; have y7 := hx 7 _ rfl; have y8 := hx 8 _ rfl; have y9 := hx 9 _ rfl; have y10 := hx 10 _ rfl; clear hx hx0 hb0
      have hwn := HW.out l[n] (List.getElem_mem hlt)
      have E1 := Lib.hid (List.take_succ_eq_append_getElem hlt)
      have E2 := Lib.hid (show rightM [] l = (okD (l.take n) l[n] && rightM (l.take (n + 1)) (l.drop (n + 1))) from by
        rw [hr, List.drop_eq_getElem_cons hlt, rightM, ← List.take_succ_eq_append_getElem hlt])
      have HN := Lib.hid hn
      have hn0 : n < 100000 := by omega
      have HS := Lib.hid hS
      have HL := Lib.hid hL
      clear hn hr hS hL
      generalize l[n] = d at *
      have CR := fun w' => Lib.hid (callr_calls d.call w')
      generalize hpre : l.take n = pre at *
      clear hpre
      obtain ⟨gk', rfl⟩ : ∃ g', gk = g' + 1 := ⟨gk - 1, by have := HN.out; omega⟩
      by_cases q1 : d.start ≤ lastFrom pre
      · have t1 : decide (d.start ≤ lastFrom pre) = true := by simpa using q1
        have E3 := Lib.hid (show rightM [] l = false from by
          rw [E2.out]; have : okD pre d = false := by unfold okD okHead; rw [show decide (lastFrom pre < d.start) = false by simp; omega]; simp
          rw [this]; rfl)
        clear q1 hwn
        go_wp2_with (first | ((with_reducible refine at_alloc ?_); refine st_allocf K.out (fun _ => rfl) ?_; intro gd w1 K1; have K2 := Lib.hid K1; clear K1 K; (try clear a0); (try clear l0); (try clear a1); (try clear l1); (try clear a2); (try clear l2); have K := K2; clear K2; have a0 := K.out.rd 0 rfl; have l0 := K.out.ltp 0 rfl) | ((with_reducible refine at_store ?_); refine st_store 0 K.out rfl rfl rfl rfl ?_ ?_ ?_ ?_; (· kernel_rfl); (· simp); (· simp [Value.oneCell']); intro w1 K1; simp only [List.set, putL] at K1; have K2 := Lib.hid K1; clear K1 K; (try clear a0); (try clear l0); (try clear a1); (try clear l1); (try clear a2); (try clear l2); have K := K2; clear K2; have a0 := K.out.rd 0 rfl; have l0 := K.out.ltp 0 rfl))
        go_ret
        exact ⟨ret_b E3.out.symm, K.out.below⟩
      have t1 : decide (d.start ≤ lastFrom pre) = false := by simpa using q1
      by_cases q2 : 0 ≤ d.stop ∧ d.stop ≤ d.start
      · obtain ⟨q2, q3⟩ := q2
        have t2 : decide (d.stop ≥ 0) = true := by simpa using q2
        have t3 : decide (d.stop ≤ d.start) = true := by simpa using q3
        have E3 := Lib.hid (show rightM [] l = false from by
          rw [E2.out]; have : okD pre d = false := by unfold okD okHead; rw [show decide (d.stop < 0) = false by simp; omega, show decide (d.start < d.stop) = false by simp; omega]; simp
          rw [this]; rfl)
        clear q1 q2 q3 hwn
        go_wp2_with (first | ((with_reducible refine at_alloc ?_); refine st_allocf K.out (fun _ => rfl) ?_; intro gd w1 K1; have K2 := Lib.hid K1; clear K1 K; (try clear a0); (try clear l0); (try clear a1); (try clear l1); (try clear a2); (try clear l2); have K := K2; clear K2; have a0 := K.out.rd 0 rfl; have l0 := K.out.ltp 0 rfl) | ((with_reducible refine at_store ?_); refine st_store 0 K.out rfl rfl rfl rfl ?_ ?_ ?_ ?_; (· kernel_rfl); (· simp); (· simp [Value.oneCell']); intro w1 K1; simp only [List.set, putL] at K1; have K2 := Lib.hid K1; clear K1 K; (try clear a0); (try clear l0); (try clear a1); (try clear l1); (try clear a2); (try clear l2); have K := K2; clear K2; have a0 := K.out.rd 0 rfl; have l0 := K.out.ltp 0 rfl))
        go_ret
        exact ⟨ret_b E3.out.symm, K.out.below⟩
      cases q4 : d.call.right with
      | false =>
        have E3 := Lib.hid (show rightM [] l = false from by
          rw [E2.out]; have : okD pre d = false := by unfold okD okHead; rw [q4]; simp
          rw [this]; rfl)
        rw [q4] at CR
        clear q1 hwn
        by_cases q5 : 0 ≤ d.stop
        · have t2 : decide (d.stop ≥ 0) = true := by simpa using q5
          have t3 : decide (d.stop ≤ d.start) = false := by simp; omega
          clear q2 q5
          go_wp2_with (first | ((with_reducible refine at_alloc ?_); refine st_allocf K.out (fun _ => rfl) ?_; intro gd w1 K1; have K2 := Lib.hid K1; clear K1 K; (try clear a0); (try clear l0); (try clear a1); (try clear l1); (try clear a2); (try clear l2); have K := K2; clear K2; have a0 := K.out.rd 0 rfl; have l0 := K.out.ltp 0 rfl) | ((with_reducible refine at_store ?_); refine st_store 0 K.out rfl rfl rfl rfl ?_ ?_ ?_ ?_; (· kernel_rfl); (· simp); (· simp [Value.oneCell']); intro w1 K1; simp only [List.set, putL] at K1; have K2 := Lib.hid K1; clear K1 K; (try clear a0); (try clear l0); (try clear a1); (try clear l1); (try clear a2); (try clear l2); have K := K2; clear K2; have a0 := K.out.rd 0 rfl; have l0 := K.out.ltp 0 rfl) | (go_at_call 14; (with_reducible refine ((CR _).out).mono ?_); rintro e w1 ⟨rfl, hb⟩; have K1 := sat.grown (by repeat (with_reducible first | exact K.out | apply sat.alloc_any | apply sat.drew | apply sat.drewN)) hb; clear hb; have K2 := Lib.hid K1; clear K1 K; (try clear a0); (try clear l0); (try clear a1); (try clear l1); (try clear a2); (try clear l2); have K := K2; clear K2; have a0 := K.out.rd 0 rfl; have l0 := K.out.ltp 0 rfl))
          go_ret
          exact ⟨ret_b E3.out.symm, K.out.below⟩
        · have t2 : decide (d.stop ≥ 0) = false := by simpa using q5
          clear q2 q5
          go_wp2_with (first | ((with_reducible refine at_alloc ?_); refine st_allocf K.out (fun _ => rfl) ?_; intro gd w1 K1; have K2 := Lib.hid K1; clear K1 K; (try clear a0); (try clear l0); (try clear a1); (try clear l1); (try clear a2); (try clear l2); have K := K2; clear K2; have a0 := K.out.rd 0 rfl; have l0 := K.out.ltp 0 rfl) | ((with_reducible refine at_store ?_); refine st_store 0 K.out rfl rfl rfl rfl ?_ ?_ ?_ ?_; (· kernel_rfl); (· simp); (· simp [Value.oneCell']); intro w1 K1; simp only [List.set, putL] at K1; have K2 := Lib.hid K1; clear K1 K; (try clear a0); (try clear l0); (try clear a1); (try clear l1); (try clear a2); (try clear l2); have K := K2; clear K2; have a0 := K.out.rd 0 rfl; have l0 := K.out.ltp 0 rfl) | (go_at_call 14; (with_reducible refine ((CR _).out).mono ?_); rintro e w1 ⟨rfl, hb⟩; have K1 := sat.grown (by repeat (with_reducible first | exact K.out | apply sat.alloc_any | apply sat.drew | apply sat.drewN)) hb; clear hb; have K2 := Lib.hid K1; clear K1 K; (try clear a0); (try clear l0); (try clear a1); (try clear l1); (try clear a2); (try clear l2); have K := K2; clear K2; have a0 := K.out.rd 0 rfl; have l0 := K.out.ltp 0 rfl))
          go_ret
          exact ⟨ret_b E3.out.symm, K.out.below⟩
      | true =>
        rw [q4] at CR
        have EH := Lib.hid (show okHead pre d = true from by
          unfold okHead
          rw [q4, show decide (lastFrom pre < d.start) = true by simp; omega]
          by_cases q5 : d.stop < 0
          · simp [q5]
          · rw [show decide (d.start < d.stop) = true by simp; omega]; simp)
        have KW := Lib.hid (keyJ hwn.who)
        have hfl := HL.out d.who
        rcases Int.lt_or_le d.stop 0 with q5 | q5
        · have t2 : decide (d.stop ≥ 0) = false := by simp; omega
          have q6 : d.start = d.start := rfl
          clear q1 q2
          cases ho : lastOf pre d.who with
          | none =>
            rw [ho] at hfl
            have HFL := Lib.hid (show (fl (.int .i64 d.who)).getD deedZ = deedZ from by rw [hfl]; rfl)
            have HFB0 := Lib.hid (show (fl (.int .i64 d.who)).isSome = false from by rw [hfl]; rfl)
            have HO := Lib.hid ho
            clear hfl ho
            go_upto_region 14 with (first | (go_at_call 14; (with_reducible refine ((CR _).out).mono ?_); rintro e w1 ⟨rfl, hb⟩; have K1 := sat.grown (by repeat (with_reducible first | exact K.out | apply sat.alloc_any | apply sat.drew | apply sat.drewN)) hb; clear hb; have K2 := Lib.hid K1; clear K1 K; (try clear a0); (try clear l0); (try clear a1); (try clear l1); (try clear a2); (try clear l2); have K := K2; clear K2; have a0 := K.out.rd 0 rfl; have l0 := K.out.ltp 0 rfl) | ((with_reducible refine at_lookup' ?_); refine st_lookV 1 K.out rfl keyedJ Try.underlying44 zeroD rfl rfl rfl KW.out HFL.out HFB0.out ?_) | (have _hp := gw; ((with_reducible refine at_store ?_); refine st_store 0 K.out rfl rfl rfl rfl ?_ ?_ ?_ ?_; (· kernel_rfl); (· simp); (· simp [Value.oneCell']); intro w1 K1; simp only [List.set, putL] at K1; have K2 := Lib.hid K1; clear K1 K; (try clear a0); (try clear l0); (try clear a1); (try clear l1); (try clear a2); (try clear l2); have K := K2; clear K2; have a0 := K.out.rd 0 rfl; have l0 := K.out.ltp 0 rfl; have a1 := K.out.rd 1 rfl; have l1 := K.out.ltp 1 rfl)) | (have _hp := gw; (go_at_call 10; (with_reducible refine ((BF _).out).mono ?_); rintro e w1 ⟨rfl, hb⟩; have K1 := sat.grown (by repeat (with_reducible first | exact K.out | apply sat.alloc_any | apply sat.drew | apply sat.drewN)) hb; clear hb; have K2 := Lib.hid K1; clear K1 K; (try clear a0); (try clear l0); (try clear a1); (try clear l1); (try clear a2); (try clear l2); have K := K2; clear K2; have a0 := K.out.rd 0 rfl; have l0 := K.out.ltp 0 rfl; have a1 := K.out.rd 1 rfl; have l1 := K.out.ltp 1 rfl)) | (have _hp := gw; ((with_reducible refine at_put' ?_); refine st_putV 2 K.out rfl keyedJ Try.underlying44 (by unfold maxLen; omega) rfl rfl KW.out rfl (okDeed d) ?_; intro w1 K1; simp only [List.set] at K1; have K2 := Lib.hid K1; clear K1 K; (try clear a0); (try clear l0); (try clear a1); (try clear l1); (try clear a2); (try clear l2); have K := K2; clear K2; have a0 := K.out.rd 0 rfl; have l0 := K.out.ltp 0 rfl; have a1 := K.out.rd 1 rfl; have l1 := K.out.ltp 1 rfl)) | (have _hp := gd; ((with_reducible refine at_alloc ?_); refine st_allocf K.out (fun _ => rfl) ?_; intro gw w1 K1; have K2 := Lib.hid K1; clear K1 K; (try clear a0); (try clear l0); (try clear a1); (try clear l1); (try clear a2); (try clear l2); have K := K2; clear K2; have a0 := K.out.rd 0 rfl; have l0 := K.out.ltp 0 rfl; have a1 := K.out.rd 1 rfl; have l1 := K.out.ltp 1 rfl)) | ((with_reducible refine at_alloc ?_); refine st_allocf K.out (fun _ => rfl) ?_; intro gd w1 K1; have K2 := Lib.hid K1; clear K1 K; (try clear a0); (try clear l0); (try clear a1); (try clear l1); (try clear a2); (try clear l2); have K := K2; clear K2; have a0 := K.out.rd 0 rfl; have l0 := K.out.ltp 0 rfl) | ((with_reducible refine at_store ?_); refine st_store 0 K.out rfl rfl rfl rfl ?_ ?_ ?_ ?_; (· kernel_rfl); (· simp); (· simp [Value.oneCell']); intro w1 K1; simp only [List.set, putL] at K1; have K2 := Lib.hid K1; clear K1 K; (try clear a0); (try clear l0); (try clear a1); (try clear l1); (try clear a2); (try clear l2); have K := K2; clear K2; have a0 := K.out.rd 0 rfl; have l0 := K.out.ltp 0 rfl))
            go_wp2_with fail
            have K1 := K.out.alloc (.cells #[.int .i64 d.start, .int .i64 d.stop] 3)
            obtain ⟨gt, hgt⟩ : ∃ g, g = w1.heap.size := ⟨_, rfl⟩
            rw [← hgt] at K1 ⊢
            clear K a0 l0 a1 l1 hgt
            have K := Lib.hid K1
            clear K1
            have OW := Lib.hid (show okOwn pre d = true from by unfold okOwn; rw [HO.out])
            go_loopg [70] 2 (fun gk i w' => ∃ (k : Nat) (fs2 : Lit → Option Value), k + gk = 2 ∧ i = .int .i64 k ∧ (1 ≤ k → okT pre d.start = true) ∧ (2 ≤ k → okS pre d = true) ∧ Seen fs2 (fun t => inT pre t || (decide (1 ≤ k) && d.start == t) || (decide (2 ≤ k) && d.stop == t)) ∧ sat w w' [pt gt (.cells #[.int .i64 d.start, .int .i64 d.stop] 3 (0, 0)), pt gw (.cells #[.int .i64 0, .int .i64 0, .int .i64 0, .int .u64 0, .int .i64 0, .int .i64 0, .int .i64 0, .bool false, .int .u64 0, .int .i64 0, .int .i64 0] 35 (0, 0)), deedA gd d, timeA gl (2 * n + 1) (updV fl (.int .i64 d.who) (deedV d)), timeA gs (2 * n + k) fs2])
            case atStart => exact ⟨0, fs, by simp, rfl, fun h => by omega, fun h => by omega, HS.out.congr (fun t => by simp), K.out⟩
            case round =>
              obtain ⟨k, fs2, hk, rfl, h1, h2, hSE, hs⟩ := hrel
              clear K
              have K := Lib.hid hs
              clear hs
              have a0 := K.out.rd 0 rfl
              have l0 := K.out.ltp 0 rfl
              have HK := Lib.hid hk
              have hk3 : k = 0 ∨ k = 1 ∨ k = 2 := by omega
              have H1 := Lib.hid h1
              have H2 := Lib.hid h2
              clear h1 h2
              rcases hk3 with rfl | rfl | rfl
              · obtain ⟨gk2', rfl⟩ : ∃ g', gk = g' + 1 := ⟨gk - 1, by omega⟩
                clear hk
                have KX := Lib.hid (keyJ hwn.start)
                have hs1 : Seen fs2 (fun t => inT pre t) := hSE.congr (fun t => by simp)
                have HSP := Lib.hid (hs1.put d.start)
                clear hSE
                have z1 : wr.cell? ⟨gt, 0, none⟩ = some (.int .i64 d.start) := a0 0
                cases q7 : inT pre d.start with
                | true =>
                  have HFX := Lib.hid (hs1.hit (x := d.start) q7)
                  clear hs1
                  by_cases q8 : 0 ≤ d.start
                  · have t8 : decide (d.start ≥ 0) = true := by simpa using q8
                    have E3 := Lib.hid (show rightM [] l = false from by rw [E2.out, okD_eq, okT_bad q7 q8]; simp)
                    clear q7 q8
                    go_wp2_with (first | ((with_reducible refine at_lookup' ?_); refine st_lookV 4 K.out rfl keyedJ Try.underlying43 zeroUn rfl rfl rfl KX.out HFX.out.1 HFX.out.2 ?_) | (have _hp := gz; ((with_reducible refine at_put' ?_); refine st_putV 5 K.out rfl keyedJ Try.underlying43 (by unfold maxLen; omega) rfl rfl KX.out rfl rfl ?_; intro w1 K1; simp only [List.set] at K1; have K2 := Lib.hid K1; clear K1 K; (try clear a0); (try clear l0); (try clear a1); (try clear l1); (try clear a2); (try clear l2); have K := K2; clear K2; have a0 := K.out.rd 0 rfl; have l0 := K.out.ltp 0 rfl; have a1 := K.out.rd 1 rfl; have l1 := K.out.ltp 1 rfl)) | (have _hp := gz; ((with_reducible refine at_store ?_); refine st_store 0 K.out rfl rfl rfl rfl ?_ ?_ ?_ ?_; (· kernel_rfl); (· simp); (· simp [Value.oneCell']); intro w1 K1; simp only [List.set, putL] at K1; have K2 := Lib.hid K1; clear K1 K; (try clear a0); (try clear l0); (try clear a1); (try clear l1); (try clear a2); (try clear l2); have K := K2; clear K2; have a0 := K.out.rd 0 rfl; have l0 := K.out.ltp 0 rfl; have a1 := K.out.rd 1 rfl; have l1 := K.out.ltp 1 rfl)) | ((with_reducible refine at_alloc ?_); refine st_allocf K.out (fun _ => rfl) ?_; intro gz w1 K1; have K2 := Lib.hid K1; clear K1 K; (try clear a0); (try clear l0); (try clear a1); (try clear l1); (try clear a2); (try clear l2); have K := K2; clear K2; have a0 := K.out.rd 0 rfl; have l0 := K.out.ltp 0 rfl; have a1 := K.out.rd 1 rfl; have l1 := K.out.ltp 1 rfl))
                    go_ret
                    exact ⟨ret_b E3.out.symm, K.out.below⟩
                  · have t8 : decide (d.start ≥ 0) = false := by simpa using q8
                    have HCK := Lib.hid (show okT pre d.start = true from okT_neg q8)
                    clear q7 q8
                    go_wp2_with (first | ((with_reducible refine at_lookup' ?_); refine st_lookV 4 K.out rfl keyedJ Try.underlying43 zeroUn rfl rfl rfl KX.out HFX.out.1 HFX.out.2 ?_) | (have _hp := gz; ((with_reducible refine at_put' ?_); refine st_putV 5 K.out rfl keyedJ Try.underlying43 (by unfold maxLen; omega) rfl rfl KX.out rfl rfl ?_; intro w1 K1; simp only [List.set] at K1; have K2 := Lib.hid K1; clear K1 K; (try clear a0); (try clear l0); (try clear a1); (try clear l1); (try clear a2); (try clear l2); have K := K2; clear K2; have a0 := K.out.rd 0 rfl; have l0 := K.out.ltp 0 rfl; have a1 := K.out.rd 1 rfl; have l1 := K.out.ltp 1 rfl)) | (have _hp := gz; ((with_reducible refine at_store ?_); refine st_store 0 K.out rfl rfl rfl rfl ?_ ?_ ?_ ?_; (· kernel_rfl); (· simp); (· simp [Value.oneCell']); intro w1 K1; simp only [List.set, putL] at K1; have K2 := Lib.hid K1; clear K1 K; (try clear a0); (try clear l0); (try clear a1); (try clear l1); (try clear a2); (try clear l2); have K := K2; clear K2; have a0 := K.out.rd 0 rfl; have l0 := K.out.ltp 0 rfl; have a1 := K.out.rd 1 rfl; have l1 := K.out.ltp 1 rfl)) | ((with_reducible refine at_alloc ?_); refine st_allocf K.out (fun _ => rfl) ?_; intro gz w1 K1; have K2 := Lib.hid K1; clear K1 K; (try clear a0); (try clear l0); (try clear a1); (try clear l1); (try clear a2); (try clear l2); have K := K2; clear K2; have a0 := K.out.rd 0 rfl; have l0 := K.out.ltp 0 rfl; have a1 := K.out.rd 1 rfl; have l1 := K.out.ltp 1 rfl))
                    go_roundg gk2'
                    case measure => omega
                    case rel => exact ⟨1, _, by have := HK.out; omega, by simp, (fun _ => HCK.out), (fun h => by omega), HSP.out.congr (fun t => by simp), K.out.drop⟩
                | false =>
                  have HFX := Lib.hid (hs1.miss (x := d.start) q7)
                  have HCK := Lib.hid (show okT pre d.start = true from okT_not q7)
                  clear hs1
                  by_cases q8 : 0 ≤ d.start
                  · have t8 : decide (d.start ≥ 0) = true := by simpa using q8
                    clear q7 q8
                    go_wp2_with (first | ((with_reducible refine at_lookup' ?_); refine st_lookV 4 K.out rfl keyedJ Try.underlying43 zeroUn rfl rfl rfl KX.out HFX.out.1 HFX.out.2 ?_) | (have _hp := gz; ((with_reducible refine at_put' ?_); refine st_putV 5 K.out rfl keyedJ Try.underlying43 (by unfold maxLen; omega) rfl rfl KX.out rfl rfl ?_; intro w1 K1; simp only [List.set] at K1; have K2 := Lib.hid K1; clear K1 K; (try clear a0); (try clear l0); (try clear a1); (try clear l1); (try clear a2); (try clear l2); have K := K2; clear K2; have a0 := K.out.rd 0 rfl; have l0 := K.out.ltp 0 rfl; have a1 := K.out.rd 1 rfl; have l1 := K.out.ltp 1 rfl)) | (have _hp := gz; ((with_reducible refine at_store ?_); refine st_store 0 K.out rfl rfl rfl rfl ?_ ?_ ?_ ?_; (· kernel_rfl); (· simp); (· simp [Value.oneCell']); intro w1 K1; simp only [List.set, putL] at K1; have K2 := Lib.hid K1; clear K1 K; (try clear a0); (try clear l0); (try clear a1); (try clear l1); (try clear a2); (try clear l2); have K := K2; clear K2; have a0 := K.out.rd 0 rfl; have l0 := K.out.ltp 0 rfl; have a1 := K.out.rd 1 rfl; have l1 := K.out.ltp 1 rfl)) | ((with_reducible refine at_alloc ?_); refine st_allocf K.out (fun _ => rfl) ?_; intro gz w1 K1; have K2 := Lib.hid K1; clear K1 K; (try clear a0); (try clear l0); (try clear a1); (try clear l1); (try clear a2); (try clear l2); have K := K2; clear K2; have a0 := K.out.rd 0 rfl; have l0 := K.out.ltp 0 rfl; have a1 := K.out.rd 1 rfl; have l1 := K.out.ltp 1 rfl))
                    go_roundg gk2'
                    case measure => omega
                    case rel => exact ⟨1, _, by have := HK.out; omega, by simp, (fun _ => HCK.out), (fun h => by omega), HSP.out.congr (fun t => by simp), K.out.drop⟩
                  · have t8 : decide (d.start ≥ 0) = false := by simpa using q8
                    clear q7 q8
                    go_wp2_with (first | ((with_reducible refine at_lookup' ?_); refine st_lookV 4 K.out rfl keyedJ Try.underlying43 zeroUn rfl rfl rfl KX.out HFX.out.1 HFX.out.2 ?_) | (have _hp := gz; ((with_reducible refine at_put' ?_); refine st_putV 5 K.out rfl keyedJ Try.underlying43 (by unfold maxLen; omega) rfl rfl KX.out rfl rfl ?_; intro w1 K1; simp only [List.set] at K1; have K2 := Lib.hid K1; clear K1 K; (try clear a0); (try clear l0); (try clear a1); (try clear l1); (try clear a2); (try clear l2); have K := K2; clear K2; have a0 := K.out.rd 0 rfl; have l0 := K.out.ltp 0 rfl; have a1 := K.out.rd 1 rfl; have l1 := K.out.ltp 1 rfl)) | (have _hp := gz; ((with_reducible refine at_store ?_); refine st_store 0 K.out rfl rfl rfl rfl ?_ ?_ ?_ ?_; (· kernel_rfl); (· simp); (· simp [Value.oneCell']); intro w1 K1; simp only [List.set, putL] at K1; have K2 := Lib.hid K1; clear K1 K; (try clear a0); (try clear l0); (try clear a1); (try clear l1); (try clear a2); (try clear l2); have K := K2; clear K2; have a0 := K.out.rd 0 rfl; have l0 := K.out.ltp 0 rfl; have a1 := K.out.rd 1 rfl; have l1 := K.out.ltp 1 rfl)) | ((with_reducible refine at_alloc ?_); refine st_allocf K.out (fun _ => rfl) ?_; intro gz w1 K1; have K2 := Lib.hid K1; clear K1 K; (try clear a0); (try clear l0); (try clear a1); (try clear l1); (try clear a2); (try clear l2); have K := K2; clear K2; have a0 := K.out.rd 0 rfl; have l0 := K.out.ltp 0 rfl; have a1 := K.out.rd 1 rfl; have l1 := K.out.ltp 1 rfl))
                    go_roundg gk2'
                    case measure => omega
                    case rel => exact ⟨1, _, by have := HK.out; omega, by simp, (fun _ => HCK.out), (fun h => by omega), HSP.out.congr (fun t => by simp), K.out.drop⟩
              · obtain ⟨gk2', rfl⟩ : ∃ g', gk = g' + 1 := ⟨gk - 1, by omega⟩
                clear hk
                have KX := Lib.hid (keyJ hwn.stop)
                have hs1 : Seen fs2 (fun t => inT pre t || d.start == t) := hSE.congr (fun t => by simp)
                have HSP := Lib.hid (hs1.put d.stop)
                clear hSE
                have z1 : wr.cell? ⟨gt, 1, none⟩ = some (.int .i64 d.stop) := a0 1
                cases q7 : (inT pre d.stop || d.start == d.stop) with
                | true =>
                  have HFX := Lib.hid (hs1.hit (x := d.stop) q7)
                  clear hs1
                  have q8 : ¬ 0 ≤ d.stop := by omega
                  have t8 : decide (d.stop ≥ 0) = false := by simpa using q8
                  have HCK := Lib.hid (show okS pre d = true from okS_neg q8)
                  clear q7 q8
                  go_wp2_with (first | ((with_reducible refine at_lookup' ?_); refine st_lookV 4 K.out rfl keyedJ Try.underlying43 zeroUn rfl rfl rfl KX.out HFX.out.1 HFX.out.2 ?_) | (have _hp := gz; ((with_reducible refine at_put' ?_); refine st_putV 5 K.out rfl keyedJ Try.underlying43 (by unfold maxLen; omega) rfl rfl KX.out rfl rfl ?_; intro w1 K1; simp only [List.set] at K1; have K2 := Lib.hid K1; clear K1 K; (try clear a0); (try clear l0); (try clear a1); (try clear l1); (try clear a2); (try clear l2); have K := K2; clear K2; have a0 := K.out.rd 0 rfl; have l0 := K.out.ltp 0 rfl; have a1 := K.out.rd 1 rfl; have l1 := K.out.ltp 1 rfl)) | (have _hp := gz; ((with_reducible refine at_store ?_); refine st_store 0 K.out rfl rfl rfl rfl ?_ ?_ ?_ ?_; (· kernel_rfl); (· simp); (· simp [Value.oneCell']); intro w1 K1; simp only [List.set, putL] at K1; have K2 := Lib.hid K1; clear K1 K; (try clear a0); (try clear l0); (try clear a1); (try clear l1); (try clear a2); (try clear l2); have K := K2; clear K2; have a0 := K.out.rd 0 rfl; have l0 := K.out.ltp 0 rfl; have a1 := K.out.rd 1 rfl; have l1 := K.out.ltp 1 rfl)) | ((with_reducible refine at_alloc ?_); refine st_allocf K.out (fun _ => rfl) ?_; intro gz w1 K1; have K2 := Lib.hid K1; clear K1 K; (try clear a0); (try clear l0); (try clear a1); (try clear l1); (try clear a2); (try clear l2); have K := K2; clear K2; have a0 := K.out.rd 0 rfl; have l0 := K.out.ltp 0 rfl; have a1 := K.out.rd 1 rfl; have l1 := K.out.ltp 1 rfl))
                  go_roundg gk2'
                  case measure => omega
                  case rel => exact ⟨2, _, by have := HK.out; omega, by simp, (fun _ => H1.out (by omega)), (fun _ => HCK.out), HSP.out.congr (fun t => by simp), K.out.drop⟩
                | false =>
                  have HFX := Lib.hid (hs1.miss (x := d.stop) q7)
                  have HCK := Lib.hid (show okS pre d = true from okS_not q7)
                  clear hs1
                  have q8 : ¬ 0 ≤ d.stop := by omega
                  have t8 : decide (d.stop ≥ 0) = false := by simpa using q8
                  clear q7 q8
                  go_wp2_with (first | ((with_reducible refine at_lookup' ?_); refine st_lookV 4 K.out rfl keyedJ Try.underlying43 zeroUn rfl rfl rfl KX.out HFX.out.1 HFX.out.2 ?_) | (have _hp := gz; ((with_reducible refine at_put' ?_); refine st_putV 5 K.out rfl keyedJ Try.underlying43 (by unfold maxLen; omega) rfl rfl KX.out rfl rfl ?_; intro w1 K1; simp only [List.set] at K1; have K2 := Lib.hid K1; clear K1 K; (try clear a0); (try clear l0); (try clear a1); (try clear l1); (try clear a2); (try clear l2); have K := K2; clear K2; have a0 := K.out.rd 0 rfl; have l0 := K.out.ltp 0 rfl; have a1 := K.out.rd 1 rfl; have l1 := K.out.ltp 1 rfl)) | (have _hp := gz; ((with_reducible refine at_store ?_); refine st_store 0 K.out rfl rfl rfl rfl ?_ ?_ ?_ ?_; (· kernel_rfl); (· simp); (· simp [Value.oneCell']); intro w1 K1; simp only [List.set, putL] at K1; have K2 := Lib.hid K1; clear K1 K; (try clear a0); (try clear l0); (try clear a1); (try clear l1); (try clear a2); (try clear l2); have K := K2; clear K2; have a0 := K.out.rd 0 rfl; have l0 := K.out.ltp 0 rfl; have a1 := K.out.rd 1 rfl; have l1 := K.out.ltp 1 rfl)) | ((with_reducible refine at_alloc ?_); refine st_allocf K.out (fun _ => rfl) ?_; intro gz w1 K1; have K2 := Lib.hid K1; clear K1 K; (try clear a0); (try clear l0); (try clear a1); (try clear l1); (try clear a2); (try clear l2); have K := K2; clear K2; have a0 := K.out.rd 0 rfl; have l0 := K.out.ltp 0 rfl; have a1 := K.out.rd 1 rfl; have l1 := K.out.ltp 1 rfl))
                  go_roundg gk2'
                  case measure => omega
                  case rel => exact ⟨2, _, by have := HK.out; omega, by simp, (fun _ => H1.out (by omega)), (fun _ => HCK.out), HSP.out.congr (fun t => by simp), K.out.drop⟩
              · have d1 : decide (2 < 2) = false := rfl
                clear hk
                have E4 := Lib.hid (show okD pre d = true from by rw [okD_eq, EH.out, OW.out, H1.out (by omega), H2.out (by omega)]; rfl)
                have HSE := Lib.hid hSE
                clear hSE
                go_wp2
                go_roundg gk'
                case measure => omega
                case rel => exact ⟨n + 1, _, _, by have := HN.out; omega, by simp, by rw [E1.out, lastFrom_snoc], by rw [E2.out, E4.out, E1.out]; rfl, by rw [E1.out]; exact HSE.out.congr (fun t => by rw [inT_snoc]; simp [Bool.or_assoc]), by rw [E1.out]; exact HL.out.put d, (((K.out.drop.drop.drop.mapV_mono (by omega)).swap).mapV_mono (by omega)).swap⟩
          | some o =>
            rw [ho] at hfl
            have HFL := Lib.hid (show (fl (.int .i64 d.who)).getD deedZ = deedV o from by rw [hfl]; rfl)
            have HFB0 := Lib.hid (show (fl (.int .i64 d.who)).isSome = true from by rw [hfl]; rfl)
            have HO := Lib.hid ho
            have BF := fun w' => Lib.hid (before_calls o d w')
            clear hfl ho
            cases hbf : beforeD o d with
            | true =>
              rw [hbf] at BF
              have HBF := Lib.hid hbf
              clear hbf
              go_upto_region 14 with (first | (go_at_call 14; (with_reducible refine ((CR _).out).mono ?_); rintro e w1 ⟨rfl, hb⟩; have K1 := sat.grown (by repeat (with_reducible first | exact K.out | apply sat.alloc_any | apply sat.drew | apply sat.drewN)) hb; clear hb; have K2 := Lib.hid K1; clear K1 K; (try clear a0); (try clear l0); (try clear a1); (try clear l1); (try clear a2); (try clear l2); have K := K2; clear K2; have a0 := K.out.rd 0 rfl; have l0 := K.out.ltp 0 rfl) | ((with_reducible refine at_lookup' ?_); refine st_lookV 1 K.out rfl keyedJ Try.underlying44 zeroD rfl rfl rfl KW.out HFL.out HFB0.out ?_) | (have _hp := gw; ((with_reducible refine at_store ?_); refine st_store 0 K.out rfl rfl rfl rfl ?_ ?_ ?_ ?_; (· kernel_rfl); (· simp); (· simp [Value.oneCell']); intro w1 K1; simp only [List.set, putL] at K1; have K2 := Lib.hid K1; clear K1 K; (try clear a0); (try clear l0); (try clear a1); (try clear l1); (try clear a2); (try clear l2); have K := K2; clear K2; have a0 := K.out.rd 0 rfl; have l0 := K.out.ltp 0 rfl; have a1 := K.out.rd 1 rfl; have l1 := K.out.ltp 1 rfl)) | (have _hp := gw; (go_at_call 10; (with_reducible refine ((BF _).out).mono ?_); rintro e w1 ⟨rfl, hb⟩; have K1 := sat.grown (by repeat (with_reducible first | exact K.out | apply sat.alloc_any | apply sat.drew | apply sat.drewN)) hb; clear hb; have K2 := Lib.hid K1; clear K1 K; (try clear a0); (try clear l0); (try clear a1); (try clear l1); (try clear a2); (try clear l2); have K := K2; clear K2; have a0 := K.out.rd 0 rfl; have l0 := K.out.ltp 0 rfl; have a1 := K.out.rd 1 rfl; have l1 := K.out.ltp 1 rfl)) | (have _hp := gw; ((with_reducible refine at_put' ?_); refine st_putV 2 K.out rfl keyedJ Try.underlying44 (by unfold maxLen; omega) rfl rfl KW.out rfl (okDeed d) ?_; intro w1 K1; simp only [List.set] at K1; have K2 := Lib.hid K1; clear K1 K; (try clear a0); (try clear l0); (try clear a1); (try clear l1); (try clear a2); (try clear l2); have K := K2; clear K2; have a0 := K.out.rd 0 rfl; have l0 := K.out.ltp 0 rfl; have a1 := K.out.rd 1 rfl; have l1 := K.out.ltp 1 rfl)) | (have _hp := gd; ((with_reducible refine at_alloc ?_); refine st_allocf K.out (fun _ => rfl) ?_; intro gw w1 K1; have K2 := Lib.hid K1; clear K1 K; (try clear a0); (try clear l0); (try clear a1); (try clear l1); (try clear a2); (try clear l2); have K := K2; clear K2; have a0 := K.out.rd 0 rfl; have l0 := K.out.ltp 0 rfl; have a1 := K.out.rd 1 rfl; have l1 := K.out.ltp 1 rfl)) | ((with_reducible refine at_alloc ?_); refine st_allocf K.out (fun _ => rfl) ?_; intro gd w1 K1; have K2 := Lib.hid K1; clear K1 K; (try clear a0); (try clear l0); (try clear a1); (try clear l1); (try clear a2); (try clear l2); have K := K2; clear K2; have a0 := K.out.rd 0 rfl; have l0 := K.out.ltp 0 rfl) | ((with_reducible refine at_store ?_); refine st_store 0 K.out rfl rfl rfl rfl ?_ ?_ ?_ ?_; (· kernel_rfl); (· simp); (· simp [Value.oneCell']); intro w1 K1; simp only [List.set, putL] at K1; have K2 := Lib.hid K1; clear K1 K; (try clear a0); (try clear l0); (try clear a1); (try clear l1); (try clear a2); (try clear l2); have K := K2; clear K2; have a0 := K.out.rd 0 rfl; have l0 := K.out.ltp 0 rfl))
              go_wp2_with fail
              have K1 := K.out.alloc (.cells #[.int .i64 d.start, .int .i64 d.stop] 3)
              obtain ⟨gt, hgt⟩ : ∃ g, g = w1.heap.size := ⟨_, rfl⟩
              rw [← hgt] at K1 ⊢
              clear K a0 l0 a1 l1 hgt
              have K := Lib.hid K1
              clear K1
              have OW := Lib.hid (show okOwn pre d = true from by unfold okOwn; rw [HO.out]; exact HBF.out)
              go_loopg [70] 2 (fun gk i w' => ∃ (k : Nat) (fs2 : Lit → Option Value), k + gk = 2 ∧ i = .int .i64 k ∧ (1 ≤ k → okT pre d.start = true) ∧ (2 ≤ k → okS pre d = true) ∧ Seen fs2 (fun t => inT pre t || (decide (1 ≤ k) && d.start == t) || (decide (2 ≤ k) && d.stop == t)) ∧ sat w w' [pt gt (.cells #[.int .i64 d.start, .int .i64 d.stop] 3 (0, 0)), deedA gw o, deedA gd d, timeA gl (2 * n + 1) (updV fl (.int .i64 d.who) (deedV d)), timeA gs (2 * n + k) fs2])
              case atStart => exact ⟨0, fs, by simp, rfl, fun h => by omega, fun h => by omega, HS.out.congr (fun t => by simp), K.out⟩
              case round =>
                obtain ⟨k, fs2, hk, rfl, h1, h2, hSE, hs⟩ := hrel
                clear K
                have K := Lib.hid hs
                clear hs
                have a0 := K.out.rd 0 rfl
                have l0 := K.out.ltp 0 rfl
                have HK := Lib.hid hk
                have hk3 : k = 0 ∨ k = 1 ∨ k = 2 := by omega
                have H1 := Lib.hid h1
                have H2 := Lib.hid h2
                clear h1 h2
                rcases hk3 with rfl | rfl | rfl
                · obtain ⟨gk2', rfl⟩ : ∃ g', gk = g' + 1 := ⟨gk - 1, by omega⟩
                  clear hk
                  have KX := Lib.hid (keyJ hwn.start)
                  have hs1 : Seen fs2 (fun t => inT pre t) := hSE.congr (fun t => by simp)
                  have HSP := Lib.hid (hs1.put d.start)
                  clear hSE
                  have z1 : wr.cell? ⟨gt, 0, none⟩ = some (.int .i64 d.start) := a0 0
                  cases q7 : inT pre d.start with
                  | true =>
                    have HFX := Lib.hid (hs1.hit (x := d.start) q7)
                    clear hs1
                    by_cases q8 : 0 ≤ d.start
                    · have t8 : decide (d.start ≥ 0) = true := by simpa using q8
                      have E3 := Lib.hid (show rightM [] l = false from by rw [E2.out, okD_eq, okT_bad q7 q8]; simp)
                      clear q7 q8
                      go_wp2_with (first | ((with_reducible refine at_lookup' ?_); refine st_lookV 4 K.out rfl keyedJ Try.underlying43 zeroUn rfl rfl rfl KX.out HFX.out.1 HFX.out.2 ?_) | (have _hp := gz; ((with_reducible refine at_put' ?_); refine st_putV 5 K.out rfl keyedJ Try.underlying43 (by unfold maxLen; omega) rfl rfl KX.out rfl rfl ?_; intro w1 K1; simp only [List.set] at K1; have K2 := Lib.hid K1; clear K1 K; (try clear a0); (try clear l0); (try clear a1); (try clear l1); (try clear a2); (try clear l2); have K := K2; clear K2; have a0 := K.out.rd 0 rfl; have l0 := K.out.ltp 0 rfl; have a1 := K.out.rd 1 rfl; have l1 := K.out.ltp 1 rfl)) | (have _hp := gz; ((with_reducible refine at_store ?_); refine st_store 0 K.out rfl rfl rfl rfl ?_ ?_ ?_ ?_; (· kernel_rfl); (· simp); (· simp [Value.oneCell']); intro w1 K1; simp only [List.set, putL] at K1; have K2 := Lib.hid K1; clear K1 K; (try clear a0); (try clear l0); (try clear a1); (try clear l1); (try clear a2); (try clear l2); have K := K2; clear K2; have a0 := K.out.rd 0 rfl; have l0 := K.out.ltp 0 rfl; have a1 := K.out.rd 1 rfl; have l1 := K.out.ltp 1 rfl)) | ((with_reducible refine at_alloc ?_); refine st_allocf K.out (fun _ => rfl) ?_; intro gz w1 K1; have K2 := Lib.hid K1; clear K1 K; (try clear a0); (try clear l0); (try clear a1); (try clear l1); (try clear a2); (try clear l2); have K := K2; clear K2; have a0 := K.out.rd 0 rfl; have l0 := K.out.ltp 0 rfl; have a1 := K.out.rd 1 rfl; have l1 := K.out.ltp 1 rfl))
                      go_ret
                      exact ⟨ret_b E3.out.symm, K.out.below⟩
                    · have t8 : decide (d.start ≥ 0) = false := by simpa using q8
                      have HCK := Lib.hid (show okT pre d.start = true from okT_neg q8)
                      clear q7 q8
                      go_wp2_with (first | ((with_reducible refine at_lookup' ?_); refine st_lookV 4 K.out rfl keyedJ Try.underlying43 zeroUn rfl rfl rfl KX.out HFX.out.1 HFX.out.2 ?_) | (have _hp := gz; ((with_reducible refine at_put' ?_); refine st_putV 5 K.out rfl keyedJ Try.underlying43 (by unfold maxLen; omega) rfl rfl KX.out rfl rfl ?_; intro w1 K1; simp only [List.set] at K1; have K2 := Lib.hid K1; clear K1 K; (try clear a0); (try clear l0); (try clear a1); (try clear l1); (try clear a2); (try clear l2); have K := K2; clear K2; have a0 := K.out.rd 0 rfl; have l0 := K.out.ltp 0 rfl; have a1 := K.out.rd 1 rfl; have l1 := K.out.ltp 1 rfl)) | (have _hp := gz; ((with_reducible refine at_store ?_); refine st_store 0 K.out rfl rfl rfl rfl ?_ ?_ ?_ ?_; (· kernel_rfl); (· simp); (· simp [Value.oneCell']); intro w1 K1; simp only [List.set, putL] at K1; have K2 := Lib.hid K1; clear K1 K; (try clear a0); (try clear l0); (try clear a1); (try clear l1); (try clear a2); (try clear l2); have K := K2; clear K2; have a0 := K.out.rd 0 rfl; have l0 := K.out.ltp 0 rfl; have a1 := K.out.rd 1 rfl; have l1 := K.out.ltp 1 rfl)) | ((with_reducible refine at_alloc ?_); refine st_allocf K.out (fun _ => rfl) ?_; intro gz w1 K1; have K2 := Lib.hid K1; clear K1 K; (try clear a0); (try clear l0); (try clear a1); (try clear l1); (try clear a2); (try clear l2); have K := K2; clear K2; have a0 := K.out.rd 0 rfl; have l0 := K.out.ltp 0 rfl; have a1 := K.out.rd 1 rfl; have l1 := K.out.ltp 1 rfl))
                      go_roundg gk2'
                      case measure => omega
                      case rel => exact ⟨1, _, by have := HK.out; omega, by simp, (fun _ => HCK.out), (fun h => by omega), HSP.out.congr (fun t => by simp), K.out.drop⟩
                  | false =>
                    have HFX := Lib.hid (hs1.miss (x := d.start) q7)
                    have HCK := Lib.hid (show okT pre d.start = true from okT_not q7)
                    clear hs1
                    by_cases q8 : 0 ≤ d.start
                    · have t8 : decide (d.start ≥ 0) = true := by simpa using q8
                      clear q7 q8
                      go_wp2_with (first | ((with_reducible refine at_lookup' ?_); refine st_lookV 4 K.out rfl keyedJ Try.underlying43 zeroUn rfl rfl rfl KX.out HFX.out.1 HFX.out.2 ?_) | (have _hp := gz; ((with_reducible refine at_put' ?_); refine st_putV 5 K.out rfl keyedJ Try.underlying43 (by unfold maxLen; omega) rfl rfl KX.out rfl rfl ?_; intro w1 K1; simp only [List.set] at K1; have K2 := Lib.hid K1; clear K1 K; (try clear a0); (try clear l0); (try clear a1); (try clear l1); (try clear a2); (try clear l2); have K := K2; clear K2; have a0 := K.out.rd 0 rfl; have l0 := K.out.ltp 0 rfl; have a1 := K.out.rd 1 rfl; have l1 := K.out.ltp 1 rfl)) | (have _hp := gz; ((with_reducible refine at_store ?_); refine st_store 0 K.out rfl rfl rfl rfl ?_ ?_ ?_ ?_; (· kernel_rfl); (· simp); (· simp [Value.oneCell']); intro w1 K1; simp only [List.set, putL] at K1; have K2 := Lib.hid K1; clear K1 K; (try clear a0); (try clear l0); (try clear a1); (try clear l1); (try clear a2); (try clear l2); have K := K2; clear K2; have a0 := K.out.rd 0 rfl; have l0 := K.out.ltp 0 rfl; have a1 := K.out.rd 1 rfl; have l1 := K.out.ltp 1 rfl)) | ((with_reducible refine at_alloc ?_); refine st_allocf K.out (fun _ => rfl) ?_; intro gz w1 K1; have K2 := Lib.hid K1; clear K1 K; (try clear a0); (try clear l0); (try clear a1); (try clear l1); (try clear a2); (try clear l2); have K := K2; clear K2; have a0 := K.out.rd 0 rfl; have l0 := K.out.ltp 0 rfl; have a1 := K.out.rd 1 rfl; have l1 := K.out.ltp 1 rfl))
                      go_roundg gk2'
                      case measure => omega
                      case rel => exact ⟨1, _, by have := HK.out; omega, by simp, (fun _ => HCK.out), (fun h => by omega), HSP.out.congr (fun t => by simp), K.out.drop⟩
                    · have t8 : decide (d.start ≥ 0) = false := by simpa using q8
                      clear q7 q8
                      go_wp2_with (first | ((with_reducible refine at_lookup' ?_); refine st_lookV 4 K.out rfl keyedJ Try.underlying43 zeroUn rfl rfl rfl KX.out HFX.out.1 HFX.out.2 ?_) | (have _hp := gz; ((with_reducible refine at_put' ?_); refine st_putV 5 K.out rfl keyedJ Try.underlying43 (by unfold maxLen; omega) rfl rfl KX.out rfl rfl ?_; intro w1 K1; simp only [List.set] at K1; have K2 := Lib.hid K1; clear K1 K; (try clear a0); (try clear l0); (try clear a1); (try clear l1); (try clear a2); (try clear l2); have K := K2; clear K2; have a0 := K.out.rd 0 rfl; have l0 := K.out.ltp 0 rfl; have a1 := K.out.rd 1 rfl; have l1 := K.out.ltp 1 rfl)) | (have _hp := gz; ((with_reducible refine at_store ?_); refine st_store 0 K.out rfl rfl rfl rfl ?_ ?_ ?_ ?_; (· kernel_rfl); (· simp); (· simp [Value.oneCell']); intro w1 K1; simp only [List.set, putL] at K1; have K2 := Lib.hid K1; clear K1 K; (try clear a0); (try clear l0); (try clear a1); (try clear l1); (try clear a2); (try clear l2); have K := K2; clear K2; have a0 := K.out.rd 0 rfl; have l0 := K.out.ltp 0 rfl; have a1 := K.out.rd 1 rfl; have l1 := K.out.ltp 1 rfl)) | ((with_reducible refine at_alloc ?_); refine st_allocf K.out (fun _ => rfl) ?_; intro gz w1 K1; have K2 := Lib.hid K1; clear K1 K; (try clear a0); (try clear l0); (try clear a1); (try clear l1); (try clear a2); (try clear l2); have K := K2; clear K2; have a0 := K.out.rd 0 rfl; have l0 := K.out.ltp 0 rfl; have a1 := K.out.rd 1 rfl; have l1 := K.out.ltp 1 rfl))
                      go_roundg gk2'
                      case measure => omega
                      case rel => exact ⟨1, _, by have := HK.out; omega, by simp, (fun _ => HCK.out), (fun h => by omega), HSP.out.congr (fun t => by simp), K.out.drop⟩
                · obtain ⟨gk2', rfl⟩ : ∃ g', gk = g' + 1 := ⟨gk - 1, by omega⟩
                  clear hk
                  have KX := Lib.hid (keyJ hwn.stop)
                  have hs1 : Seen fs2 (fun t => inT pre t || d.start == t) := hSE.congr (fun t => by simp)
                  have HSP := Lib.hid (hs1.put d.stop)
                  clear hSE
                  have z1 : wr.cell? ⟨gt, 1, none⟩ = some (.int .i64 d.stop) := a0 1
                  cases q7 : (inT pre d.stop || d.start == d.stop) with
                  | true =>
                    have HFX := Lib.hid (hs1.hit (x := d.stop) q7)
                    clear hs1
                    have q8 : ¬ 0 ≤ d.stop := by omega
                    have t8 : decide (d.stop ≥ 0) = false := by simpa using q8
                    have HCK := Lib.hid (show okS pre d = true from okS_neg q8)
                    clear q7 q8
                    go_wp2_with (first | ((with_reducible refine at_lookup' ?_); refine st_lookV 4 K.out rfl keyedJ Try.underlying43 zeroUn rfl rfl rfl KX.out HFX.out.1 HFX.out.2 ?_) | (have _hp := gz; ((with_reducible refine at_put' ?_); refine st_putV 5 K.out rfl keyedJ Try.underlying43 (by unfold maxLen; omega) rfl rfl KX.out rfl rfl ?_; intro w1 K1; simp only [List.set] at K1; have K2 := Lib.hid K1; clear K1 K; (try clear a0); (try clear l0); (try clear a1); (try clear l1); (try clear a2); (try clear l2); have K := K2; clear K2; have a0 := K.out.rd 0 rfl; have l0 := K.out.ltp 0 rfl; have a1 := K.out.rd 1 rfl; have l1 := K.out.ltp 1 rfl)) | (have _hp := gz; ((with_reducible refine at_store ?_); refine st_store 0 K.out rfl rfl rfl rfl ?_ ?_ ?_ ?_; (· kernel_rfl); (· simp); (· simp [Value.oneCell']); intro w1 K1; simp only [List.set, putL] at K1; have K2 := Lib.hid K1; clear K1 K; (try clear a0); (try clear l0); (try clear a1); (try clear l1); (try clear a2); (try clear l2); have K := K2; clear K2; have a0 := K.out.rd 0 rfl; have l0 := K.out.ltp 0 rfl; have a1 := K.out.rd 1 rfl; have l1 := K.out.ltp 1 rfl)) | ((with_reducible refine at_alloc ?_); refine st_allocf K.out (fun _ => rfl) ?_; intro gz w1 K1; have K2 := Lib.hid K1; clear K1 K; (try clear a0); (try clear l0); (try clear a1); (try clear l1); (try clear a2); (try clear l2); have K := K2; clear K2; have a0 := K.out.rd 0 rfl; have l0 := K.out.ltp 0 rfl; have a1 := K.out.rd 1 rfl; have l1 := K.out.ltp 1 rfl))
                    go_roundg gk2'
                    case measure => omega
                    case rel => exact ⟨2, _, by have := HK.out; omega, by simp, (fun _ => H1.out (by omega)), (fun _ => HCK.out), HSP.out.congr (fun t => by simp), K.out.drop⟩
                  | false =>
                    have HFX := Lib.hid (hs1.miss (x := d.stop) q7)
                    have HCK := Lib.hid (show okS pre d = true from okS_not q7)
                    clear hs1
                    have q8 : ¬ 0 ≤ d.stop := by omega
                    have t8 : decide (d.stop ≥ 0) = false := by simpa using q8
                    clear q7 q8
                    go_wp2_with (first | ((with_reducible refine at_lookup' ?_); refine st_lookV 4 K.out rfl keyedJ Try.underlying43 zeroUn rfl rfl rfl KX.out HFX.out.1 HFX.out.2 ?_) | (have _hp := gz; ((with_reducible refine at_put' ?_); refine st_putV 5 K.out rfl keyedJ Try.underlying43 (by unfold maxLen; omega) rfl rfl KX.out rfl rfl ?_; intro w1 K1; simp only [List.set] at K1; have K2 := Lib.hid K1; clear K1 K; (try clear a0); (try clear l0); (try clear a1); (try clear l1); (try clear a2); (try clear l2); have K := K2; clear K2; have a0 := K.out.rd 0 rfl; have l0 := K.out.ltp 0 rfl; have a1 := K.out.rd 1 rfl; have l1 := K.out.ltp 1 rfl)) | (have _hp := gz; ((with_reducible refine at_store ?_); refine st_store 0 K.out rfl rfl rfl rfl ?_ ?_ ?_ ?_; (· kernel_rfl); (· simp); (· simp [Value.oneCell']); intro w1 K1; simp only [List.set, putL] at K1; have K2 := Lib.hid K1; clear K1 K; (try clear a0); (try clear l0); (try clear a1); (try clear l1); (try clear a2); (try clear l2); have K := K2; clear K2; have a0 := K.out.rd 0 rfl; have l0 := K.out.ltp 0 rfl; have a1 := K.out.rd 1 rfl; have l1 := K.out.ltp 1 rfl)) | ((with_reducible refine at_alloc ?_); refine st_allocf K.out (fun _ => rfl) ?_; intro gz w1 K1; have K2 := Lib.hid K1; clear K1 K; (try clear a0); (try clear l0); (try clear a1); (try clear l1); (try clear a2); (try clear l2); have K := K2; clear K2; have a0 := K.out.rd 0 rfl; have l0 := K.out.ltp 0 rfl; have a1 := K.out.rd 1 rfl; have l1 := K.out.ltp 1 rfl))
                    go_roundg gk2'
                    case measure => omega
                    case rel => exact ⟨2, _, by have := HK.out; omega, by simp, (fun _ => H1.out (by omega)), (fun _ => HCK.out), HSP.out.congr (fun t => by simp), K.out.drop⟩
                · have d1 : decide (2 < 2) = false := rfl
                  clear hk
                  have E4 := Lib.hid (show okD pre d = true from by rw [okD_eq, EH.out, OW.out, H1.out (by omega), H2.out (by omega)]; rfl)
                  have HSE := Lib.hid hSE
                  clear hSE
                  go_wp2
                  go_roundg gk'
                  case measure => omega
                  case rel => exact ⟨n + 1, _, _, by have := HN.out; omega, by simp, by rw [E1.out, lastFrom_snoc], by rw [E2.out, E4.out, E1.out]; rfl, by rw [E1.out]; exact HSE.out.congr (fun t => by rw [inT_snoc]; simp [Bool.or_assoc]), by rw [E1.out]; exact HL.out.put d, (((K.out.drop.drop.drop.mapV_mono (by omega)).swap).mapV_mono (by omega)).swap⟩
            | false =>
              rw [hbf] at BF
              have E3 := Lib.hid (show rightM [] l = false from by
                rw [E2.out]; have : okD pre d = false := by unfold okD okOwn; rw [HO.out]; dsimp only; rw [← over_before, hbf]; simp
                rw [this]; rfl)
              clear hbf
              go_wp2_with (first | (go_at_call 14; (with_reducible refine ((CR _).out).mono ?_); rintro e w1 ⟨rfl, hb⟩; have K1 := sat.grown (by repeat (with_reducible first | exact K.out | apply sat.alloc_any | apply sat.drew | apply sat.drewN)) hb; clear hb; have K2 := Lib.hid K1; clear K1 K; (try clear a0); (try clear l0); (try clear a1); (try clear l1); (try clear a2); (try clear l2); have K := K2; clear K2; have a0 := K.out.rd 0 rfl; have l0 := K.out.ltp 0 rfl) | ((with_reducible refine at_lookup' ?_); refine st_lookV 1 K.out rfl keyedJ Try.underlying44 zeroD rfl rfl rfl KW.out HFL.out HFB0.out ?_) | (have _hp := gw; ((with_reducible refine at_store ?_); refine st_store 0 K.out rfl rfl rfl rfl ?_ ?_ ?_ ?_; (· kernel_rfl); (· simp); (· simp [Value.oneCell']); intro w1 K1; simp only [List.set, putL] at K1; have K2 := Lib.hid K1; clear K1 K; (try clear a0); (try clear l0); (try clear a1); (try clear l1); (try clear a2); (try clear l2); have K := K2; clear K2; have a0 := K.out.rd 0 rfl; have l0 := K.out.ltp 0 rfl; have a1 := K.out.rd 1 rfl; have l1 := K.out.ltp 1 rfl)) | (have _hp := gw; (go_at_call 10; (with_reducible refine ((BF _).out).mono ?_); rintro e w1 ⟨rfl, hb⟩; have K1 := sat.grown (by repeat (with_reducible first | exact K.out | apply sat.alloc_any | apply sat.drew | apply sat.drewN)) hb; clear hb; have K2 := Lib.hid K1; clear K1 K; (try clear a0); (try clear l0); (try clear a1); (try clear l1); (try clear a2); (try clear l2); have K := K2; clear K2; have a0 := K.out.rd 0 rfl; have l0 := K.out.ltp 0 rfl; have a1 := K.out.rd 1 rfl; have l1 := K.out.ltp 1 rfl)) | (have _hp := gw; ((with_reducible refine at_put' ?_); refine st_putV 2 K.out rfl keyedJ Try.underlying44 (by unfold maxLen; omega) rfl rfl KW.out rfl (okDeed d) ?_; intro w1 K1; simp only [List.set] at K1; have K2 := Lib.hid K1; clear K1 K; (try clear a0); (try clear l0); (try clear a1); (try clear l1); (try clear a2); (try clear l2); have K := K2; clear K2; have a0 := K.out.rd 0 rfl; have l0 := K.out.ltp 0 rfl; have a1 := K.out.rd 1 rfl; have l1 := K.out.ltp 1 rfl)) | (have _hp := gd; ((with_reducible refine at_alloc ?_); refine st_allocf K.out (fun _ => rfl) ?_; intro gw w1 K1; have K2 := Lib.hid K1; clear K1 K; (try clear a0); (try clear l0); (try clear a1); (try clear l1); (try clear a2); (try clear l2); have K := K2; clear K2; have a0 := K.out.rd 0 rfl; have l0 := K.out.ltp 0 rfl; have a1 := K.out.rd 1 rfl; have l1 := K.out.ltp 1 rfl)) | ((with_reducible refine at_alloc ?_); refine st_allocf K.out (fun _ => rfl) ?_; intro gd w1 K1; have K2 := Lib.hid K1; clear K1 K; (try clear a0); (try clear l0); (try clear a1); (try clear l1); (try clear a2); (try clear l2); have K := K2; clear K2; have a0 := K.out.rd 0 rfl; have l0 := K.out.ltp 0 rfl) | ((with_reducible refine at_store ?_); refine st_store 0 K.out rfl rfl rfl rfl ?_ ?_ ?_ ?_; (· kernel_rfl); (· simp); (· simp [Value.oneCell']); intro w1 K1; simp only [List.set, putL] at K1; have K2 := Lib.hid K1; clear K1 K; (try clear a0); (try clear l0); (try clear a1); (try clear l1); (try clear a2); (try clear l2); have K := K2; clear K2; have a0 := K.out.rd 0 rfl; have l0 := K.out.ltp 0 rfl))
              go_ret
              exact ⟨ret_b E3.out.symm, K.out.below⟩
        · have t2 : decide (d.stop ≥ 0) = true := by simpa using q5
          have t3 : decide (d.stop ≤ d.start) = false := by simp; omega
          clear q1 q2
          cases ho : lastOf pre d.who with
          | none =>
            rw [ho] at hfl
            have HFL := Lib.hid (show (fl (.int .i64 d.who)).getD deedZ = deedZ from by rw [hfl]; rfl)
            have HFB0 := Lib.hid (show (fl (.int .i64 d.who)).isSome = false from by rw [hfl]; rfl)
            have HO := Lib.hid ho
            clear hfl ho
            go_upto_region 14 with (first | (go_at_call 14; (with_reducible refine ((CR _).out).mono ?_); rintro e w1 ⟨rfl, hb⟩; have K1 := sat.grown (by repeat (with_reducible first | exact K.out | apply sat.alloc_any | apply sat.drew | apply sat.drewN)) hb; clear hb; have K2 := Lib.hid K1; clear K1 K; (try clear a0); (try clear l0); (try clear a1); (try clear l1); (try clear a2); (try clear l2); have K := K2; clear K2; have a0 := K.out.rd 0 rfl; have l0 := K.out.ltp 0 rfl) | ((with_reducible refine at_lookup' ?_); refine st_lookV 1 K.out rfl keyedJ Try.underlying44 zeroD rfl rfl rfl KW.out HFL.out HFB0.out ?_) | (have _hp := gw; ((with_reducible refine at_store ?_); refine st_store 0 K.out rfl rfl rfl rfl ?_ ?_ ?_ ?_; (· kernel_rfl); (· simp); (· simp [Value.oneCell']); intro w1 K1; simp only [List.set, putL] at K1; have K2 := Lib.hid K1; clear K1 K; (try clear a0); (try clear l0); (try clear a1); (try clear l1); (try clear a2); (try clear l2); have K := K2; clear K2; have a0 := K.out.rd 0 rfl; have l0 := K.out.ltp 0 rfl; have a1 := K.out.rd 1 rfl; have l1 := K.out.ltp 1 rfl)) | (have _hp := gw; (go_at_call 10; (with_reducible refine ((BF _).out).mono ?_); rintro e w1 ⟨rfl, hb⟩; have K1 := sat.grown (by repeat (with_reducible first | exact K.out | apply sat.alloc_any | apply sat.drew | apply sat.drewN)) hb; clear hb; have K2 := Lib.hid K1; clear K1 K; (try clear a0); (try clear l0); (try clear a1); (try clear l1); (try clear a2); (try clear l2); have K := K2; clear K2; have a0 := K.out.rd 0 rfl; have l0 := K.out.ltp 0 rfl; have a1 := K.out.rd 1 rfl; have l1 := K.out.ltp 1 rfl)) | (have _hp := gw; ((with_reducible refine at_put' ?_); refine st_putV 2 K.out rfl keyedJ Try.underlying44 (by unfold maxLen; omega) rfl rfl KW.out rfl (okDeed d) ?_; intro w1 K1; simp only [List.set] at K1; have K2 := Lib.hid K1; clear K1 K; (try clear a0); (try clear l0); (try clear a1); (try clear l1); (try clear a2); (try clear l2); have K := K2; clear K2; have a0 := K.out.rd 0 rfl; have l0 := K.out.ltp 0 rfl; have a1 := K.out.rd 1 rfl; have l1 := K.out.ltp 1 rfl)) | (have _hp := gd; ((with_reducible refine at_alloc ?_); refine st_allocf K.out (fun _ => rfl) ?_; intro gw w1 K1; have K2 := Lib.hid K1; clear K1 K; (try clear a0); (try clear l0); (try clear a1); (try clear l1); (try clear a2); (try clear l2); have K := K2; clear K2; have a0 := K.out.rd 0 rfl; have l0 := K.out.ltp 0 rfl; have a1 := K.out.rd 1 rfl; have l1 := K.out.ltp 1 rfl)) | ((with_reducible refine at_alloc ?_); refine st_allocf K.out (fun _ => rfl) ?_; intro gd w1 K1; have K2 := Lib.hid K1; clear K1 K; (try clear a0); (try clear l0); (try clear a1); (try clear l1); (try clear a2); (try clear l2); have K := K2; clear K2; have a0 := K.out.rd 0 rfl; have l0 := K.out.ltp 0 rfl) | ((with_reducible refine at_store ?_); refine st_store 0 K.out rfl rfl rfl rfl ?_ ?_ ?_ ?_; (· kernel_rfl); (· simp); (· simp [Value.oneCell']); intro w1 K1; simp only [List.set, putL] at K1; have K2 := Lib.hid K1; clear K1 K; (try clear a0); (try clear l0); (try clear a1); (try clear l1); (try clear a2); (try clear l2); have K := K2; clear K2; have a0 := K.out.rd 0 rfl; have l0 := K.out.ltp 0 rfl))
            go_wp2_with fail
            have K1 := K.out.alloc (.cells #[.int .i64 d.start, .int .i64 d.stop] 3)
            obtain ⟨gt, hgt⟩ : ∃ g, g = w1.heap.size := ⟨_, rfl⟩
            rw [← hgt] at K1 ⊢
            clear K a0 l0 a1 l1 hgt
            have K := Lib.hid K1
            clear K1
            have OW := Lib.hid (show okOwn pre d = true from by unfold okOwn; rw [HO.out])
            go_loopg [70] 2 (fun gk i w' => ∃ (k : Nat) (fs2 : Lit → Option Value), k + gk = 2 ∧ i = .int .i64 k ∧ (1 ≤ k → okT pre d.start = true) ∧ (2 ≤ k → okS pre d = true) ∧ Seen fs2 (fun t => inT pre t || (decide (1 ≤ k) && d.start == t) || (decide (2 ≤ k) && d.stop == t)) ∧ sat w w' [pt gt (.cells #[.int .i64 d.start, .int .i64 d.stop] 3 (0, 0)), pt gw (.cells #[.int .i64 0, .int .i64 0, .int .i64 0, .int .u64 0, .int .i64 0, .int .i64 0, .int .i64 0, .bool false, .int .u64 0, .int .i64 0, .int .i64 0] 35 (0, 0)), deedA gd d, timeA gl (2 * n + 1) (updV fl (.int .i64 d.who) (deedV d)), timeA gs (2 * n + k) fs2])
            case atStart => exact ⟨0, fs, by simp, rfl, fun h => by omega, fun h => by omega, HS.out.congr (fun t => by simp), K.out⟩
            case round =>
              obtain ⟨k, fs2, hk, rfl, h1, h2, hSE, hs⟩ := hrel
              clear K
              have K := Lib.hid hs
              clear hs
              have a0 := K.out.rd 0 rfl
              have l0 := K.out.ltp 0 rfl
              have HK := Lib.hid hk
              have hk3 : k = 0 ∨ k = 1 ∨ k = 2 := by omega
              have H1 := Lib.hid h1
              have H2 := Lib.hid h2
              clear h1 h2
              rcases hk3 with rfl | rfl | rfl
              · obtain ⟨gk2', rfl⟩ : ∃ g', gk = g' + 1 := ⟨gk - 1, by omega⟩
                clear hk
                have KX := Lib.hid (keyJ hwn.start)
                have hs1 : Seen fs2 (fun t => inT pre t) := hSE.congr (fun t => by simp)
                have HSP := Lib.hid (hs1.put d.start)
                clear hSE
                have z1 : wr.cell? ⟨gt, 0, none⟩ = some (.int .i64 d.start) := a0 0
                cases q7 : inT pre d.start with
                | true =>
                  have HFX := Lib.hid (hs1.hit (x := d.start) q7)
                  clear hs1
                  by_cases q8 : 0 ≤ d.start
                  · have t8 : decide (d.start ≥ 0) = true := by simpa using q8
                    have E3 := Lib.hid (show rightM [] l = false from by rw [E2.out, okD_eq, okT_bad q7 q8]; simp)
                    clear q7 q8
                    go_wp2_with (first | ((with_reducible refine at_lookup' ?_); refine st_lookV 4 K.out rfl keyedJ Try.underlying43 zeroUn rfl rfl rfl KX.out HFX.out.1 HFX.out.2 ?_) | (have _hp := gz; ((with_reducible refine at_put' ?_); refine st_putV 5 K.out rfl keyedJ Try.underlying43 (by unfold maxLen; omega) rfl rfl KX.out rfl rfl ?_; intro w1 K1; simp only [List.set] at K1; have K2 := Lib.hid K1; clear K1 K; (try clear a0); (try clear l0); (try clear a1); (try clear l1); (try clear a2); (try clear l2); have K := K2; clear K2; have a0 := K.out.rd 0 rfl; have l0 := K.out.ltp 0 rfl; have a1 := K.out.rd 1 rfl; have l1 := K.out.ltp 1 rfl)) | (have _hp := gz; ((with_reducible refine at_store ?_); refine st_store 0 K.out rfl rfl rfl rfl ?_ ?_ ?_ ?_; (· kernel_rfl); (· simp); (· simp [Value.oneCell']); intro w1 K1; simp only [List.set, putL] at K1; have K2 := Lib.hid K1; clear K1 K; (try clear a0); (try clear l0); (try clear a1); (try clear l1); (try clear a2); (try clear l2); have K := K2; clear K2; have a0 := K.out.rd 0 rfl; have l0 := K.out.ltp 0 rfl; have a1 := K.out.rd 1 rfl; have l1 := K.out.ltp 1 rfl)) | ((with_reducible refine at_alloc ?_); refine st_allocf K.out (fun _ => rfl) ?_; intro gz w1 K1; have K2 := Lib.hid K1; clear K1 K; (try clear a0); (try clear l0); (try clear a1); (try clear l1); (try clear a2); (try clear l2); have K := K2; clear K2; have a0 := K.out.rd 0 rfl; have l0 := K.out.ltp 0 rfl; have a1 := K.out.rd 1 rfl; have l1 := K.out.ltp 1 rfl))
                    go_ret
                    exact ⟨ret_b E3.out.symm, K.out.below⟩
                  · have t8 : decide (d.start ≥ 0) = false := by simpa using q8
                    have HCK := Lib.hid (show okT pre d.start = true from okT_neg q8)
                    clear q7 q8
                    go_wp2_with (first | ((with_reducible refine at_lookup' ?_); refine st_lookV 4 K.out rfl keyedJ Try.underlying43 zeroUn rfl rfl rfl KX.out HFX.out.1 HFX.out.2 ?_) | (have _hp := gz; ((with_reducible refine at_put' ?_); refine st_putV 5 K.out rfl keyedJ Try.underlying43 (by unfold maxLen; omega) rfl rfl KX.out rfl rfl ?_; intro w1 K1; simp only [List.set] at K1; have K2 := Lib.hid K1; clear K1 K; (try clear a0); (try clear l0); (try clear a1); (try clear l1); (try clear a2); (try clear l2); have K := K2; clear K2; have a0 := K.out.rd 0 rfl; have l0 := K.out.ltp 0 rfl; have a1 := K.out.rd 1 rfl; have l1 := K.out.ltp 1 rfl)) | (have _hp := gz; ((with_reducible refine at_store ?_); refine st_store 0 K.out rfl rfl rfl rfl ?_ ?_ ?_ ?_; (· kernel_rfl); (· simp); (· simp [Value.oneCell']); intro w1 K1; simp only [List.set, putL] at K1; have K2 := Lib.hid K1; clear K1 K; (try clear a0); (try clear l0); (try clear a1); (try clear l1); (try clear a2); (try clear l2); have K := K2; clear K2; have a0 := K.out.rd 0 rfl; have l0 := K.out.ltp 0 rfl; have a1 := K.out.rd 1 rfl; have l1 := K.out.ltp 1 rfl)) | ((with_reducible refine at_alloc ?_); refine st_allocf K.out (fun _ => rfl) ?_; intro gz w1 K1; have K2 := Lib.hid K1; clear K1 K; (try clear a0); (try clear l0); (try clear a1); (try clear l1); (try clear a2); (try clear l2); have K := K2; clear K2; have a0 := K.out.rd 0 rfl; have l0 := K.out.ltp 0 rfl; have a1 := K.out.rd 1 rfl; have l1 := K.out.ltp 1 rfl))
                    go_roundg gk2'
                    case measure => omega
                    case rel => exact ⟨1, _, by have := HK.out; omega, by simp, (fun _ => HCK.out), (fun h => by omega), HSP.out.congr (fun t => by simp), K.out.drop⟩
                | false =>
                  have HFX := Lib.hid (hs1.miss (x := d.start) q7)
                  have HCK := Lib.hid (show okT pre d.start = true from okT_not q7)
                  clear hs1
                  by_cases q8 : 0 ≤ d.start
                  · have t8 : decide (d.start ≥ 0) = true := by simpa using q8
                    clear q7 q8
                    go_wp2_with (first | ((with_reducible refine at_lookup' ?_); refine st_lookV 4 K.out rfl keyedJ Try.underlying43 zeroUn rfl rfl rfl KX.out HFX.out.1 HFX.out.2 ?_) | (have _hp := gz; ((with_reducible refine at_put' ?_); refine st_putV 5 K.out rfl keyedJ Try.underlying43 (by unfold maxLen; omega) rfl rfl KX.out rfl rfl ?_; intro w1 K1; simp only [List.set] at K1; have K2 := Lib.hid K1; clear K1 K; (try clear a0); (try clear l0); (try clear a1); (try clear l1); (try clear a2); (try clear l2); have K := K2; clear K2; have a0 := K.out.rd 0 rfl; have l0 := K.out.ltp 0 rfl; have a1 := K.out.rd 1 rfl; have l1 := K.out.ltp 1 rfl)) | (have _hp := gz; ((with_reducible refine at_store ?_); refine st_store 0 K.out rfl rfl rfl rfl ?_ ?_ ?_ ?_; (· kernel_rfl); (· simp); (· simp [Value.oneCell']); intro w1 K1; simp only [List.set, putL] at K1; have K2 := Lib.hid K1; clear K1 K; (try clear a0); (try clear l0); (try clear a1); (try clear l1); (try clear a2); (try clear l2); have K := K2; clear K2; have a0 := K.out.rd 0 rfl; have l0 := K.out.ltp 0 rfl; have a1 := K.out.rd 1 rfl; have l1 := K.out.ltp 1 rfl)) | ((with_reducible refine at_alloc ?_); refine st_allocf K.out (fun _ => rfl) ?_; intro gz w1 K1; have K2 := Lib.hid K1; clear K1 K; (try clear a0); (try clear l0); (try clear a1); (try clear l1); (try clear a2); (try clear l2); have K := K2; clear K2; have a0 := K.out.rd 0 rfl; have l0 := K.out.ltp 0 rfl; have a1 := K.out.rd 1 rfl; have l1 := K.out.ltp 1 rfl))
                    go_roundg gk2'
                    case measure => omega
                    case rel => exact ⟨1, _, by have := HK.out; omega, by simp, (fun _ => HCK.out), (fun h => by omega), HSP.out.congr (fun t => by simp), K.out.drop⟩
                  · have t8 : decide (d.start ≥ 0) = false := by simpa using q8
                    clear q7 q8
                    go_wp2_with (first | ((with_reducible refine at_lookup' ?_); refine st_lookV 4 K.out rfl keyedJ Try.underlying43 zeroUn rfl rfl rfl KX.out HFX.out.1 HFX.out.2 ?_) | (have _hp := gz; ((with_reducible refine at_put' ?_); refine st_putV 5 K.out rfl keyedJ Try.underlying43 (by unfold maxLen; omega) rfl rfl KX.out rfl rfl ?_; intro w1 K1; simp only [List.set] at K1; have K2 := Lib.hid K1; clear K1 K; (try clear a0); (try clear l0); (try clear a1); (try clear l1); (try clear a2); (try clear l2); have K := K2; clear K2; have a0 := K.out.rd 0 rfl; have l0 := K.out.ltp 0 rfl; have a1 := K.out.rd 1 rfl; have l1 := K.out.ltp 1 rfl)) | (have _hp := gz; ((with_reducible refine at_store ?_); refine st_store 0 K.out rfl rfl rfl rfl ?_ ?_ ?_ ?_; (· kernel_rfl); (· simp); (· simp [Value.oneCell']); intro w1 K1; simp only [List.set, putL] at K1; have K2 := Lib.hid K1; clear K1 K; (try clear a0); (try clear l0); (try clear a1); (try clear l1); (try clear a2); (try clear l2); have K := K2; clear K2; have a0 := K.out.rd 0 rfl; have l0 := K.out.ltp 0 rfl; have a1 := K.out.rd 1 rfl; have l1 := K.out.ltp 1 rfl)) | ((with_reducible refine at_alloc ?_); refine st_allocf K.out (fun _ => rfl) ?_; intro gz w1 K1; have K2 := Lib.hid K1; clear K1 K; (try clear a0); (try clear l0); (try clear a1); (try clear l1); (try clear a2); (try clear l2); have K := K2; clear K2; have a0 := K.out.rd 0 rfl; have l0 := K.out.ltp 0 rfl; have a1 := K.out.rd 1 rfl; have l1 := K.out.ltp 1 rfl))
                    go_roundg gk2'
                    case measure => omega
                    case rel => exact ⟨1, _, by have := HK.out; omega, by simp, (fun _ => HCK.out), (fun h => by omega), HSP.out.congr (fun t => by simp), K.out.drop⟩
              · obtain ⟨gk2', rfl⟩ : ∃ g', gk = g' + 1 := ⟨gk - 1, by omega⟩
                clear hk
                have KX := Lib.hid (keyJ hwn.stop)
                have hs1 : Seen fs2 (fun t => inT pre t || d.start == t) := hSE.congr (fun t => by simp)
                have HSP := Lib.hid (hs1.put d.stop)
                clear hSE
                have z1 : wr.cell? ⟨gt, 1, none⟩ = some (.int .i64 d.stop) := a0 1
                cases q7 : (inT pre d.stop || d.start == d.stop) with
                | true =>
                  have HFX := Lib.hid (hs1.hit (x := d.stop) q7)
                  clear hs1
                  have q8 : 0 ≤ d.stop := q5
                  have t8 : decide (d.stop ≥ 0) = true := by simpa using q8
                  have E3 := Lib.hid (show rightM [] l = false from by rw [E2.out, okD_eq, okS_bad q7 q8]; simp)
                  clear q7 q8
                  go_wp2_with (first | ((with_reducible refine at_lookup' ?_); refine st_lookV 4 K.out rfl keyedJ Try.underlying43 zeroUn rfl rfl rfl KX.out HFX.out.1 HFX.out.2 ?_) | (have _hp := gz; ((with_reducible refine at_put' ?_); refine st_putV 5 K.out rfl keyedJ Try.underlying43 (by unfold maxLen; omega) rfl rfl KX.out rfl rfl ?_; intro w1 K1; simp only [List.set] at K1; have K2 := Lib.hid K1; clear K1 K; (try clear a0); (try clear l0); (try clear a1); (try clear l1); (try clear a2); (try clear l2); have K := K2; clear K2; have a0 := K.out.rd 0 rfl; have l0 := K.out.ltp 0 rfl; have a1 := K.out.rd 1 rfl; have l1 := K.out.ltp 1 rfl)) | (have _hp := gz; ((with_reducible refine at_store ?_); refine st_store 0 K.out rfl rfl rfl rfl ?_ ?_ ?_ ?_; (· kernel_rfl); (· simp); (· simp [Value.oneCell']); intro w1 K1; simp only [List.set, putL] at K1; have K2 := Lib.hid K1; clear K1 K; (try clear a0); (try clear l0); (try clear a1); (try clear l1); (try clear a2); (try clear l2); have K := K2; clear K2; have a0 := K.out.rd 0 rfl; have l0 := K.out.ltp 0 rfl; have a1 := K.out.rd 1 rfl; have l1 := K.out.ltp 1 rfl)) | ((with_reducible refine at_alloc ?_); refine st_allocf K.out (fun _ => rfl) ?_; intro gz w1 K1; have K2 := Lib.hid K1; clear K1 K; (try clear a0); (try clear l0); (try clear a1); (try clear l1); (try clear a2); (try clear l2); have K := K2; clear K2; have a0 := K.out.rd 0 rfl; have l0 := K.out.ltp 0 rfl; have a1 := K.out.rd 1 rfl; have l1 := K.out.ltp 1 rfl))
                  go_ret
                  exact ⟨ret_b E3.out.symm, K.out.below⟩
                | false =>
                  have HFX := Lib.hid (hs1.miss (x := d.stop) q7)
                  have HCK := Lib.hid (show okS pre d = true from okS_not q7)
                  clear hs1
                  have q8 : 0 ≤ d.stop := q5
                  have t8 : decide (d.stop ≥ 0) = true := by simpa using q8
                  clear q7 q8
                  go_wp2_with (first | ((with_reducible refine at_lookup' ?_); refine st_lookV 4 K.out rfl keyedJ Try.underlying43 zeroUn rfl rfl rfl KX.out HFX.out.1 HFX.out.2 ?_) | (have _hp := gz; ((with_reducible refine at_put' ?_); refine st_putV 5 K.out rfl keyedJ Try.underlying43 (by unfold maxLen; omega) rfl rfl KX.out rfl rfl ?_; intro w1 K1; simp only [List.set] at K1; have K2 := Lib.hid K1; clear K1 K; (try clear a0); (try clear l0); (try clear a1); (try clear l1); (try clear a2); (try clear l2); have K := K2; clear K2; have a0 := K.out.rd 0 rfl; have l0 := K.out.ltp 0 rfl; have a1 := K.out.rd 1 rfl; have l1 := K.out.ltp 1 rfl)) | (have _hp := gz; ((with_reducible refine at_store ?_); refine st_store 0 K.out rfl rfl rfl rfl ?_ ?_ ?_ ?_; (· kernel_rfl); (· simp); (· simp [Value.oneCell']); intro w1 K1; simp only [List.set, putL] at K1; have K2 := Lib.hid K1; clear K1 K; (try clear a0); (try clear l0); (try clear a1); (try clear l1); (try clear a2); (try clear l2); have K := K2; clear K2; have a0 := K.out.rd 0 rfl; have l0 := K.out.ltp 0 rfl; have a1 := K.out.rd 1 rfl; have l1 := K.out.ltp 1 rfl)) | ((with_reducible refine at_alloc ?_); refine st_allocf K.out (fun _ => rfl) ?_; intro gz w1 K1; have K2 := Lib.hid K1; clear K1 K; (try clear a0); (try clear l0); (try clear a1); (try clear l1); (try clear a2); (try clear l2); have K := K2; clear K2; have a0 := K.out.rd 0 rfl; have l0 := K.out.ltp 0 rfl; have a1 := K.out.rd 1 rfl; have l1 := K.out.ltp 1 rfl))
                  go_roundg gk2'
                  case measure => omega
                  case rel => exact ⟨2, _, by have := HK.out; omega, by simp, (fun _ => H1.out (by omega)), (fun _ => HCK.out), HSP.out.congr (fun t => by simp), K.out.drop⟩
              · have d1 : decide (2 < 2) = false := rfl
                clear hk
                have E4 := Lib.hid (show okD pre d = true from by rw [okD_eq, EH.out, OW.out, H1.out (by omega), H2.out (by omega)]; rfl)
                have HSE := Lib.hid hSE
                clear hSE
                go_wp2
                go_roundg gk'
                case measure => omega
                case rel => exact ⟨n + 1, _, _, by have := HN.out; omega, by simp, by rw [E1.out, lastFrom_snoc], by rw [E2.out, E4.out, E1.out]; rfl, by rw [E1.out]; exact HSE.out.congr (fun t => by rw [inT_snoc]; simp [Bool.or_assoc]), by rw [E1.out]; exact HL.out.put d, (((K.out.drop.drop.drop.mapV_mono (by omega)).swap).mapV_mono (by omega)).swap⟩
          | some o =>
            rw [ho] at hfl
            have HFL := Lib.hid (show (fl (.int .i64 d.who)).getD deedZ = deedV o from by rw [hfl]; rfl)
            have HFB0 := Lib.hid (show (fl (.int .i64 d.who)).isSome = true from by rw [hfl]; rfl)
            have HO := Lib.hid ho
            have BF := fun w' => Lib.hid (before_calls o d w')
            clear hfl ho
            cases hbf : beforeD o d with
            | true =>
              rw [hbf] at BF
              have HBF := Lib.hid hbf
              clear hbf
              go_upto_region 14 with (first | (go_at_call 14; (with_reducible refine ((CR _).out).mono ?_); rintro e w1 ⟨rfl, hb⟩; have K1 := sat.grown (by repeat (with_reducible first | exact K.out | apply sat.alloc_any | apply sat.drew | apply sat.drewN)) hb; clear hb; have K2 := Lib.hid K1; clear K1 K; (try clear a0); (try clear l0); (try clear a1); (try clear l1); (try clear a2); (try clear l2); have K := K2; clear K2; have a0 := K.out.rd 0 rfl; have l0 := K.out.ltp 0 rfl) | ((with_reducible refine at_lookup' ?_); refine st_lookV 1 K.out rfl keyedJ Try.underlying44 zeroD rfl rfl rfl KW.out HFL.out HFB0.out ?_) | (have _hp := gw; ((with_reducible refine at_store ?_); refine st_store 0 K.out rfl rfl rfl rfl ?_ ?_ ?_ ?_; (· kernel_rfl); (· simp); (· simp [Value.oneCell']); intro w1 K1; simp only [List.set, putL] at K1; have K2 := Lib.hid K1; clear K1 K; (try clear a0); (try clear l0); (try clear a1); (try clear l1); (try clear a2); (try clear l2); have K := K2; clear K2; have a0 := K.out.rd 0 rfl; have l0 := K.out.ltp 0 rfl; have a1 := K.out.rd 1 rfl; have l1 := K.out.ltp 1 rfl)) | (have _hp := gw; (go_at_call 10; (with_reducible refine ((BF _).out).mono ?_); rintro e w1 ⟨rfl, hb⟩; have K1 := sat.grown (by repeat (with_reducible first | exact K.out | apply sat.alloc_any | apply sat.drew | apply sat.drewN)) hb; clear hb; have K2 := Lib.hid K1; clear K1 K; (try clear a0); (try clear l0); (try clear a1); (try clear l1); (try clear a2); (try clear l2); have K := K2; clear K2; have a0 := K.out.rd 0 rfl; have l0 := K.out.ltp 0 rfl; have a1 := K.out.rd 1 rfl; have l1 := K.out.ltp 1 rfl)) | (have _hp := gw; ((with_reducible refine at_put' ?_); refine st_putV 2 K.out rfl keyedJ Try.underlying44 (by unfold maxLen; omega) rfl rfl KW.out rfl (okDeed d) ?_; intro w1 K1; simp only [List.set] at K1; have K2 := Lib.hid K1; clear K1 K; (try clear a0); (try clear l0); (try clear a1); (try clear l1); (try clear a2); (try clear l2); have K := K2; clear K2; have a0 := K.out.rd 0 rfl; have l0 := K.out.ltp 0 rfl; have a1 := K.out.rd 1 rfl; have l1 := K.out.ltp 1 rfl)) | (have _hp := gd; ((with_reducible refine at_alloc ?_); refine st_allocf K.out (fun _ => rfl) ?_; intro gw w1 K1; have K2 := Lib.hid K1; clear K1 K; (try clear a0); (try clear l0); (try clear a1); (try clear l1); (try clear a2); (try clear l2); have K := K2; clear K2; have a0 := K.out.rd 0 rfl; have l0 := K.out.ltp 0 rfl; have a1 := K.out.rd 1 rfl; have l1 := K.out.ltp 1 rfl)) | ((with_reducible refine at_alloc ?_); refine st_allocf K.out (fun _ => rfl) ?_; intro gd w1 K1; have K2 := Lib.hid K1; clear K1 K; (try clear a0); (try clear l0); (try clear a1); (try clear l1); (try clear a2); (try clear l2); have K := K2; clear K2; have a0 := K.out.rd 0 rfl; have l0 := K.out.ltp 0 rfl) | ((with_reducible refine at_store ?_); refine st_store 0 K.out rfl rfl rfl rfl ?_ ?_ ?_ ?_; (· kernel_rfl); (· simp); (· simp [Value.oneCell']); intro w1 K1; simp only [List.set, putL] at K1; have K2 := Lib.hid K1; clear K1 K; (try clear a0); (try clear l0); (try clear a1); (try clear l1); (try clear a2); (try clear l2); have K := K2; clear K2; have a0 := K.out.rd 0 rfl; have l0 := K.out.ltp 0 rfl))
              go_wp2_with fail
              have K1 := K.out.alloc (.cells #[.int .i64 d.start, .int .i64 d.stop] 3)
              obtain ⟨gt, hgt⟩ : ∃ g, g = w1.heap.size := ⟨_, rfl⟩
              rw [← hgt] at K1 ⊢
              clear K a0 l0 a1 l1 hgt
              have K := Lib.hid K1
              clear K1
              have OW := Lib.hid (show okOwn pre d = true from by unfold okOwn; rw [HO.out]; exact HBF.out)
              go_loopg [70] 2 (fun gk i w' => ∃ (k : Nat) (fs2 : Lit → Option Value), k + gk = 2 ∧ i = .int .i64 k ∧ (1 ≤ k → okT pre d.start = true) ∧ (2 ≤ k → okS pre d = true) ∧ Seen fs2 (fun t => inT pre t || (decide (1 ≤ k) && d.start == t) || (decide (2 ≤ k) && d.stop == t)) ∧ sat w w' [pt gt (.cells #[.int .i64 d.start, .int .i64 d.stop] 3 (0, 0)), deedA gw o, deedA gd d, timeA gl (2 * n + 1) (updV fl (.int .i64 d.who) (deedV d)), timeA gs (2 * n + k) fs2])
              case atStart => exact ⟨0, fs, by simp, rfl, fun h => by omega, fun h => by omega, HS.out.congr (fun t => by simp), K.out⟩
              case round =>
                obtain ⟨k, fs2, hk, rfl, h1, h2, hSE, hs⟩ := hrel
                clear K
                have K := Lib.hid hs
                clear hs
                have a0 := K.out.rd 0 rfl
                have l0 := K.out.ltp 0 rfl
                have HK := Lib.hid hk
                have hk3 : k = 0 ∨ k = 1 ∨ k = 2 := by omega
                have H1 := Lib.hid h1
                have H2 := Lib.hid h2
                clear h1 h2
                rcases hk3 with rfl | rfl | rfl
                · obtain ⟨gk2', rfl⟩ : ∃ g', gk = g' + 1 := ⟨gk - 1, by omega⟩
                  clear hk
                  have KX := Lib.hid (keyJ hwn.start)
                  have hs1 : Seen fs2 (fun t => inT pre t) := hSE.congr (fun t => by simp)
                  have HSP := Lib.hid (hs1.put d.start)
                  clear hSE
                  have z1 : wr.cell? ⟨gt, 0, none⟩ = some (.int .i64 d.start) := a0 0
                  cases q7 : inT pre d.start with
                  | true =>
                    have HFX := Lib.hid (hs1.hit (x := d.start) q7)
                    clear hs1
                    by_cases q8 : 0 ≤ d.start
                    · have t8 : decide (d.start ≥ 0) = true := by simpa using q8
                      have E3 := Lib.hid (show rightM [] l = false from by rw [E2.out, okD_eq, okT_bad q7 q8]; simp)
                      clear q7 q8
                      go_wp2_with (first | ((with_reducible refine at_lookup' ?_); refine st_lookV 4 K.out rfl keyedJ Try.underlying43 zeroUn rfl rfl rfl KX.out HFX.out.1 HFX.out.2 ?_) | (have _hp := gz; ((with_reducible refine at_put' ?_); refine st_putV 5 K.out rfl keyedJ Try.underlying43 (by unfold maxLen; omega) rfl rfl KX.out rfl rfl ?_; intro w1 K1; simp only [List.set] at K1; have K2 := Lib.hid K1; clear K1 K; (try clear a0); (try clear l0); (try clear a1); (try clear l1); (try clear a2); (try clear l2); have K := K2; clear K2; have a0 := K.out.rd 0 rfl; have l0 := K.out.ltp 0 rfl; have a1 := K.out.rd 1 rfl; have l1 := K.out.ltp 1 rfl)) | (have _hp := gz; ((with_reducible refine at_store ?_); refine st_store 0 K.out rfl rfl rfl rfl ?_ ?_ ?_ ?_; (· kernel_rfl); (· simp); (· simp [Value.oneCell']); intro w1 K1; simp only [List.set, putL] at K1; have K2 := Lib.hid K1; clear K1 K; (try clear a0); (try clear l0); (try clear a1); (try clear l1); (try clear a2); (try clear l2); have K := K2; clear K2; have a0 := K.out.rd 0 rfl; have l0 := K.out.ltp 0 rfl; have a1 := K.out.rd 1 rfl; have l1 := K.out.ltp 1 rfl)) | ((with_reducible refine at_alloc ?_); refine st_allocf K.out (fun _ => rfl) ?_; intro gz w1 K1; have K2 := Lib.hid K1; clear K1 K; (try clear a0); (try clear l0); (try clear a1); (try clear l1); (try clear a2); (try clear l2); have K := K2; clear K2; have a0 := K.out.rd 0 rfl; have l0 := K.out.ltp 0 rfl; have a1 := K.out.rd 1 rfl; have l1 := K.out.ltp 1 rfl))
                      go_ret
                      exact ⟨ret_b E3.out.symm, K.out.below⟩
                    · have t8 : decide (d.start ≥ 0) = false := by simpa using q8
                      have HCK := Lib.hid (show okT pre d.start = true from okT_neg q8)
                      clear q7 q8
                      go_wp2_with (first | ((with_reducible refine at_lookup' ?_); refine st_lookV 4 K.out rfl keyedJ Try.underlying43 zeroUn rfl rfl rfl KX.out HFX.out.1 HFX.out.2 ?_) | (have _hp := gz; ((with_reducible refine at_put' ?_); refine st_putV 5 K.out rfl keyedJ Try.underlying43 (by unfold maxLen; omega) rfl rfl KX.out rfl rfl ?_; intro w1 K1; simp only [List.set] at K1; have K2 := Lib.hid K1; clear K1 K; (try clear a0); (try clear l0); (try clear a1); (try clear l1); (try clear a2); (try clear l2); have K := K2; clear K2; have a0 := K.out.rd 0 rfl; have l0 := K.out.ltp 0 rfl; have a1 := K.out.rd 1 rfl; have l1 := K.out.ltp 1 rfl)) | (have _hp := gz; ((with_reducible refine at_store ?_); refine st_store 0 K.out rfl rfl rfl rfl ?_ ?_ ?_ ?_; (· kernel_rfl); (· simp); (· simp [Value.oneCell']); intro w1 K1; simp only [List.set, putL] at K1; have K2 := Lib.hid K1; clear K1 K; (try clear a0); (try clear l0); (try clear a1); (try clear l1); (try clear a2); (try clear l2); have K := K2; clear K2; have a0 := K.out.rd 0 rfl; have l0 := K.out.ltp 0 rfl; have a1 := K.out.rd 1 rfl; have l1 := K.out.ltp 1 rfl)) | ((with_reducible refine at_alloc ?_); refine st_allocf K.out (fun _ => rfl) ?_; intro gz w1 K1; have K2 := Lib.hid K1; clear K1 K; (try clear a0); (try clear l0); (try clear a1); (try clear l1); (try clear a2); (try clear l2); have K := K2; clear K2; have a0 := K.out.rd 0 rfl; have l0 := K.out.ltp 0 rfl; have a1 := K.out.rd 1 rfl; have l1 := K.out.ltp 1 rfl))
                      go_roundg gk2'
                      case measure => omega
                      case rel => exact ⟨1, _, by have := HK.out; omega, by simp, (fun _ => HCK.out), (fun h => by omega), HSP.out.congr (fun t => by simp), K.out.drop⟩
                  | false =>
                    have HFX := Lib.hid (hs1.miss (x := d.start) q7)
                    have HCK := Lib.hid (show okT pre d.start = true from okT_not q7)
                    clear hs1
                    by_cases q8 : 0 ≤ d.start
                    · have t8 : decide (d.start ≥ 0) = true := by simpa using q8
                      clear q7 q8
                      go_wp2_with (first | ((with_reducible refine at_lookup' ?_); refine st_lookV 4 K.out rfl keyedJ Try.underlying43 zeroUn rfl rfl rfl KX.out HFX.out.1 HFX.out.2 ?_) | (have _hp := gz; ((with_reducible refine at_put' ?_); refine st_putV 5 K.out rfl keyedJ Try.underlying43 (by unfold maxLen; omega) rfl rfl KX.out rfl rfl ?_; intro w1 K1; simp only [List.set] at K1; have K2 := Lib.hid K1; clear K1 K; (try clear a0); (try clear l0); (try clear a1); (try clear l1); (try clear a2); (try clear l2); have K := K2; clear K2; have a0 := K.out.rd 0 rfl; have l0 := K.out.ltp 0 rfl; have a1 := K.out.rd 1 rfl; have l1 := K.out.ltp 1 rfl)) | (have _hp := gz; ((with_reducible refine at_store ?_); refine st_store 0 K.out rfl rfl rfl rfl ?_ ?_ ?_ ?_; (· kernel_rfl); (· simp); (· simp [Value.oneCell']); intro w1 K1; simp only [List.set, putL] at K1; have K2 := Lib.hid K1; clear K1 K; (try clear a0); (try clear l0); (try clear a1); (try clear l1); (try clear a2); (try clear l2); have K := K2; clear K2; have a0 := K.out.rd 0 rfl; have l0 := K.out.ltp 0 rfl; have a1 := K.out.rd 1 rfl; have l1 := K.out.ltp 1 rfl)) | ((with_reducible refine at_alloc ?_); refine st_allocf K.out (fun _ => rfl) ?_; intro gz w1 K1; have K2 := Lib.hid K1; clear K1 K; (try clear a0); (try clear l0); (try clear a1); (try clear l1); (try clear a2); (try clear l2); have K := K2; clear K2; have a0 := K.out.rd 0 rfl; have l0 := K.out.ltp 0 rfl; have a1 := K.out.rd 1 rfl; have l1 := K.out.ltp 1 rfl))
                      go_roundg gk2'
                      case measure => omega
                      case rel => exact ⟨1, _, by have := HK.out; omega, by simp, (fun _ => HCK.out), (fun h => by omega), HSP.out.congr (fun t => by simp), K.out.drop⟩
                    · have t8 : decide (d.start ≥ 0) = false := by simpa using q8
                      clear q7 q8
                      go_wp2_with (first | ((with_reducible refine at_lookup' ?_); refine st_lookV 4 K.out rfl keyedJ Try.underlying43 zeroUn rfl rfl rfl KX.out HFX.out.1 HFX.out.2 ?_) | (have _hp := gz; ((with_reducible refine at_put' ?_); refine st_putV 5 K.out rfl keyedJ Try.underlying43 (by unfold maxLen; omega) rfl rfl KX.out rfl rfl ?_; intro w1 K1; simp only [List.set] at K1; have K2 := Lib.hid K1; clear K1 K; (try clear a0); (try clear l0); (try clear a1); (try clear l1); (try clear a2); (try clear l2); have K := K2; clear K2; have a0 := K.out.rd 0 rfl; have l0 := K.out.ltp 0 rfl; have a1 := K.out.rd 1 rfl; have l1 := K.out.ltp 1 rfl)) | (have _hp := gz; ((with_reducible refine at_store ?_); refine st_store 0 K.out rfl rfl rfl rfl ?_ ?_ ?_ ?_; (· kernel_rfl); (· simp); (· simp [Value.oneCell']); intro w1 K1; simp only [List.set, putL] at K1; have K2 := Lib.hid K1; clear K1 K; (try clear a0); (try clear l0); (try clear a1); (try clear l1); (try clear a2); (try clear l2); have K := K2; clear K2; have a0 := K.out.rd 0 rfl; have l0 := K.out.ltp 0 rfl; have a1 := K.out.rd 1 rfl; have l1 := K.out.ltp 1 rfl)) | ((with_reducible refine at_alloc ?_); refine st_allocf K.out (fun _ => rfl) ?_; intro gz w1 K1; have K2 := Lib.hid K1; clear K1 K; (try clear a0); (try clear l0); (try clear a1); (try clear l1); (try clear a2); (try clear l2); have K := K2; clear K2; have a0 := K.out.rd 0 rfl; have l0 := K.out.ltp 0 rfl; have a1 := K.out.rd 1 rfl; have l1 := K.out.ltp 1 rfl))
                      go_roundg gk2'
                      case measure => omega
                      case rel => exact ⟨1, _, by have := HK.out; omega, by simp, (fun _ => HCK.out), (fun h => by omega), HSP.out.congr (fun t => by simp), K.out.drop⟩
                · obtain ⟨gk2', rfl⟩ : ∃ g', gk = g' + 1 := ⟨gk - 1, by omega⟩
                  clear hk
                  have KX := Lib.hid (keyJ hwn.stop)
                  have hs1 : Seen fs2 (fun t => inT pre t || d.start == t) := hSE.congr (fun t => by simp)
                  have HSP := Lib.hid (hs1.put d.stop)
                  clear hSE
                  have z1 : wr.cell? ⟨gt, 1, none⟩ = some (.int .i64 d.stop) := a0 1
                  cases q7 : (inT pre d.stop || d.start == d.stop) with
                  | true =>
                    have HFX := Lib.hid (hs1.hit (x := d.stop) q7)
                    clear hs1
                    have q8 : 0 ≤ d.stop := q5
                    have t8 : decide (d.stop ≥ 0) = true := by simpa using q8
                    have E3 := Lib.hid (show rightM [] l = false from by rw [E2.out, okD_eq, okS_bad q7 q8]; simp)
                    clear q7 q8
                    go_wp2_with (first | ((with_reducible refine at_lookup' ?_); refine st_lookV 4 K.out rfl keyedJ Try.underlying43 zeroUn rfl rfl rfl KX.out HFX.out.1 HFX.out.2 ?_) | (have _hp := gz; ((with_reducible refine at_put' ?_); refine st_putV 5 K.out rfl keyedJ Try.underlying43 (by unfold maxLen; omega) rfl rfl KX.out rfl rfl ?_; intro w1 K1; simp only [List.set] at K1; have K2 := Lib.hid K1; clear K1 K; (try clear a0); (try clear l0); (try clear a1); (try clear l1); (try clear a2); (try clear l2); have K := K2; clear K2; have a0 := K.out.rd 0 rfl; have l0 := K.out.ltp 0 rfl; have a1 := K.out.rd 1 rfl; have l1 := K.out.ltp 1 rfl)) | (have _hp := gz; ((with_reducible refine at_store ?_); refine st_store 0 K.out rfl rfl rfl rfl ?_ ?_ ?_ ?_; (· kernel_rfl); (· simp); (· simp [Value.oneCell']); intro w1 K1; simp only [List.set, putL] at K1; have K2 := Lib.hid K1; clear K1 K; (try clear a0); (try clear l0); (try clear a1); (try clear l1); (try clear a2); (try clear l2); have K := K2; clear K2; have a0 := K.out.rd 0 rfl; have l0 := K.out.ltp 0 rfl; have a1 := K.out.rd 1 rfl; have l1 := K.out.ltp 1 rfl)) | ((with_reducible refine at_alloc ?_); refine st_allocf K.out (fun _ => rfl) ?_; intro gz w1 K1; have K2 := Lib.hid K1; clear K1 K; (try clear a0); (try clear l0); (try clear a1); (try clear l1); (try clear a2); (try clear l2); have K := K2; clear K2; have a0 := K.out.rd 0 rfl; have l0 := K.out.ltp 0 rfl; have a1 := K.out.rd 1 rfl; have l1 := K.out.ltp 1 rfl))
                    go_ret
                    exact ⟨ret_b E3.out.symm, K.out.below⟩
                  | false =>
                    have HFX := Lib.hid (hs1.miss (x := d.stop) q7)
                    have HCK := Lib.hid (show okS pre d = true from okS_not q7)
                    clear hs1
                    have q8 : 0 ≤ d.stop := q5
                    have t8 : decide (d.stop ≥ 0) = true := by simpa using q8
                    clear q7 q8
                    go_wp2_with (first | ((with_reducible refine at_lookup' ?_); refine st_lookV 4 K.out rfl keyedJ Try.underlying43 zeroUn rfl rfl rfl KX.out HFX.out.1 HFX.out.2 ?_) | (have _hp := gz; ((with_reducible refine at_put' ?_); refine st_putV 5 K.out rfl keyedJ Try.underlying43 (by unfold maxLen; omega) rfl rfl KX.out rfl rfl ?_; intro w1 K1; simp only [List.set] at K1; have K2 := Lib.hid K1; clear K1 K; (try clear a0); (try clear l0); (try clear a1); (try clear l1); (try clear a2); (try clear l2); have K := K2; clear K2; have a0 := K.out.rd 0 rfl; have l0 := K.out.ltp 0 rfl; have a1 := K.out.rd 1 rfl; have l1 := K.out.ltp 1 rfl)) | (have _hp := gz; ((with_reducible refine at_store ?_); refine st_store 0 K.out rfl rfl rfl rfl ?_ ?_ ?_ ?_; (· kernel_rfl); (· simp); (· simp [Value.oneCell']); intro w1 K1; simp only [List.set, putL] at K1; have K2 := Lib.hid K1; clear K1 K; (try clear a0); (try clear l0); (try clear a1); (try clear l1); (try clear a2); (try clear l2); have K := K2; clear K2; have a0 := K.out.rd 0 rfl; have l0 := K.out.ltp 0 rfl; have a1 := K.out.rd 1 rfl; have l1 := K.out.ltp 1 rfl)) | ((with_reducible refine at_alloc ?_); refine st_allocf K.out (fun _ => rfl) ?_; intro gz w1 K1; have K2 := Lib.hid K1; clear K1 K; (try clear a0); (try clear l0); (try clear a1); (try clear l1); (try clear a2); (try clear l2); have K := K2; clear K2; have a0 := K.out.rd 0 rfl; have l0 := K.out.ltp 0 rfl; have a1 := K.out.rd 1 rfl; have l1 := K.out.ltp 1 rfl))
                    go_roundg gk2'
                    case measure => omega
                    case rel => exact ⟨2, _, by have := HK.out; omega, by simp, (fun _ => H1.out (by omega)), (fun _ => HCK.out), HSP.out.congr (fun t => by simp), K.out.drop⟩
                · have d1 : decide (2 < 2) = false := rfl
                  clear hk
                  have E4 := Lib.hid (show okD pre d = true from by rw [okD_eq, EH.out, OW.out, H1.out (by omega), H2.out (by omega)]; rfl)
                  have HSE := Lib.hid hSE
                  clear hSE
                  go_wp2
                  go_roundg gk'
                  case measure => omega
                  case rel => exact ⟨n + 1, _, _, by have := HN.out; omega, by simp, by rw [E1.out, lastFrom_snoc], by rw [E2.out, E4.out, E1.out]; rfl, by rw [E1.out]; exact HSE.out.congr (fun t => by rw [inT_snoc]; simp [Bool.or_assoc]), by rw [E1.out]; exact HL.out.put d, (((K.out.drop.drop.drop.mapV_mono (by omega)).swap).mapV_mono (by omega)).swap⟩
            | false =>
              rw [hbf] at BF
              have E3 := Lib.hid (show rightM [] l = false from by
                rw [E2.out]; have : okD pre d = false := by unfold okD okOwn; rw [HO.out]; dsimp only; rw [← over_before, hbf]; simp
                rw [this]; rfl)
              clear hbf
              go_wp2_with (first | (go_at_call 14; (with_reducible refine ((CR _).out).mono ?_); rintro e w1 ⟨rfl, hb⟩; have K1 := sat.grown (by repeat (with_reducible first | exact K.out | apply sat.alloc_any | apply sat.drew | apply sat.drewN)) hb; clear hb; have K2 := Lib.hid K1; clear K1 K; (try clear a0); (try clear l0); (try clear a1); (try clear l1); (try clear a2); (try clear l2); have K := K2; clear K2; have a0 := K.out.rd 0 rfl; have l0 := K.out.ltp 0 rfl) | ((with_reducible refine at_lookup' ?_); refine st_lookV 1 K.out rfl keyedJ Try.underlying44 zeroD rfl rfl rfl KW.out HFL.out HFB0.out ?_) | (have _hp := gw; ((with_reducible refine at_store ?_); refine st_store 0 K.out rfl rfl rfl rfl ?_ ?_ ?_ ?_; (· kernel_rfl); (· simp); (· simp [Value.oneCell']); intro w1 K1; simp only [List.set, putL] at K1; have K2 := Lib.hid K1; clear K1 K; (try clear a0); (try clear l0); (try clear a1); (try clear l1); (try clear a2); (try clear l2); have K := K2; clear K2; have a0 := K.out.rd 0 rfl; have l0 := K.out.ltp 0 rfl; have a1 := K.out.rd 1 rfl; have l1 := K.out.ltp 1 rfl)) | (have _hp := gw; (go_at_call 10; (with_reducible refine ((BF _).out).mono ?_); rintro e w1 ⟨rfl, hb⟩; have K1 := sat.grown (by repeat (with_reducible first | exact K.out | apply sat.alloc_any | apply sat.drew | apply sat.drewN)) hb; clear hb; have K2 := Lib.hid K1; clear K1 K; (try clear a0); (try clear l0); (try clear a1); (try clear l1); (try clear a2); (try clear l2); have K := K2; clear K2; have a0 := K.out.rd 0 rfl; have l0 := K.out.ltp 0 rfl; have a1 := K.out.rd 1 rfl; have l1 := K.out.ltp 1 rfl)) | (have _hp := gw; ((with_reducible refine at_put' ?_); refine st_putV 2 K.out rfl keyedJ Try.underlying44 (by unfold maxLen; omega) rfl rfl KW.out rfl (okDeed d) ?_; intro w1 K1; simp only [List.set] at K1; have K2 := Lib.hid K1; clear K1 K; (try clear a0); (try clear l0); (try clear a1); (try clear l1); (try clear a2); (try clear l2); have K := K2; clear K2; have a0 := K.out.rd 0 rfl; have l0 := K.out.ltp 0 rfl; have a1 := K.out.rd 1 rfl; have l1 := K.out.ltp 1 rfl)) | (have _hp := gd; ((with_reducible refine at_alloc ?_); refine st_allocf K.out (fun _ => rfl) ?_; intro gw w1 K1; have K2 := Lib.hid K1; clear K1 K; (try clear a0); (try clear l0); (try clear a1); (try clear l1); (try clear a2); (try clear l2); have K := K2; clear K2; have a0 := K.out.rd 0 rfl; have l0 := K.out.ltp 0 rfl; have a1 := K.out.rd 1 rfl; have l1 := K.out.ltp 1 rfl)) | ((with_reducible refine at_alloc ?_); refine st_allocf K.out (fun _ => rfl) ?_; intro gd w1 K1; have K2 := Lib.hid K1; clear K1 K; (try clear a0); (try clear l0); (try clear a1); (try clear l1); (try clear a2); (try clear l2); have K := K2; clear K2; have a0 := K.out.rd 0 rfl; have l0 := K.out.ltp 0 rfl) | ((with_reducible refine at_store ?_); refine st_store 0 K.out rfl rfl rfl rfl ?_ ?_ ?_ ?_; (· kernel_rfl); (· simp); (· simp [Value.oneCell']); intro w1 K1; simp only [List.set, putL] at K1; have K2 := Lib.hid K1; clear K1 K; (try clear a0); (try clear l0); (try clear a1); (try clear l1); (try clear a2); (try clear l2); have K := K2; clear K2; have a0 := K.out.rd 0 rfl; have l0 := K.out.ltp 0 rfl))
              go_ret
              exact ⟨ret_b E3.out.symm, K.out.below⟩
    · have hnl : n = l.length := by omega
      subst hnl
      have d0 : decide (l.length < l.length) = false := by simp
      have E3 := Lib.hid (show rightM [] l = true from by rw [hr, List.drop_length]; rfl)
      clear hr hS hL
      go_wp2
      go_ret
      exact ⟨ret_b E3.out.symm, K.out.below⟩
end Go.Proofs.Ythlipcejeeoacab
