/- A yard in which each thread always has a call, stepped by picks again and again (work of the statements of bound). Conditions: as told. -/
import Derived.Test.YtegdhojhnmgjgaaGreatBp
import Derived.Test.YtegdhojhnmgjgaaGreatBe
namespace Go.Proofs.YtegdhojhnmgjgaaGreat
open Go.RowKit Go.SepYtegdhojhnmgjgaaGreat
set_option linter.unusedSimpArgs false
set_option linter.unusedVariables false
set_option maxRecDepth 100000
set_option maxHeartbeats 40000000
structure AskM where
  take : Bool
  right : Bool
  value : Int
  start : Int
abbrev AskM.v (a : AskM) : List Value := [.bool a.take, .bool a.right, .int .u64 a.value, .int .i64 a.start]
def AskM.wf (a : AskM) : Prop := 0 ≤ a.value ∧ a.value < 18446744073709551616
abbrev intV (x : Int) : List Value := [.int .i64 x]
abbrev AskM.call (a : AskM) : CallM := ⟨bitM a.take, bitM a.right, a.value, a.start⟩
theorem AskM.call_right (a : AskM) : a.call.right = true := by
  unfold CallM.right AskM.call bitM
  cases a.take <;> cases a.right <;> rfl
theorem intInfoW : ∃ q z, Tryz.prog.info? 3 = some q ∧ q.zero = some z ∧ q.size = 1 ∧ q.bytes = 8 ∧ z.cells.size = 1 := ⟨_, _, rfl, rfl, rfl, rfl, rfl⟩
/-- The steps so far. -/
structure WkOk (c : ConfM) (n : Nat) (Y : YardM) (S : Int) (ends : List Int) : Prop where
  okn : Y.okn (2 * n)
  gd : Y.gd
  conf : Y.conf = c
  win : ∃ own sw, WinI Y own sw S
  s0 : 0 ≤ S
  g1 : (ends.foldl gapF (0, -1)).1 ≤ windowM c
  g2 : (ends.foldl gapF (0, -1)).2 = (n : Int) - 1 - S
  each : ∀ x ∈ ends, 0 ≤ x ∧ x ≤ 100000
  len : ends.length ≤ n
theorem WkOk.new {c : ConfM} (hc : c.ok) : WkOk c 0 (YardM.new c) 0 [] := by
  have := longM_bd hc
  exact ⟨YardM.new_okn hc, YardM.new_gd hc, rfl, ⟨_, _, WinI.new⟩, Int.le_refl _, by show (0 : Int) ≤ c.th * longM c + 1; omega, rfl, fun x h => by simp at h, Nat.le_refl _⟩
theorem WkOk.last {c : ConfM} {n : Nat} {Y : YardM} {S : Int} {ends : List Int} (h : WkOk c n Y S ends) : gapsM ends n ≤ windowM c := by
  obtain ⟨own, sw, hw⟩ := h.win
  have hb := hw.bound h.gd
  rw [h.conf] at hb
  have h1 := h.g1
  have h2 := h.g2
  unfold gapsM
  unfold windowM at *
  generalize c.th * longM c = A at *
  omega
/-- The call that a free thread makes. -/
def askY (Y : YardM) (w : Int) (k : CallM) : YardM := if Y.busy w = true then Y else (Y.call w k).1
theorem ask_busy {Y : YardM} (hg : Y.gd) {w : Int} {k : CallM} (hw : 0 ≤ w ∧ w < Y.conf.th) (hr : k.right = true) : (askY Y w k).busy w = true := by
  unfold askY
  by_cases hb : Y.busy w = true
  · rw [if_pos hb]; exact hb
  · rw [if_neg hb]
    have ht : Y.there w = true := by unfold YardM.there; simp [hw]
    have htl := hg.pinv.proto.tl
    have hn : Y.task w = none := by
      unfold YardM.busy at hb
      rw [ht] at hb
      cases q : Y.task w with
      | none => rfl
      | some t => rw [q] at hb; simp at hb
    unfold YardM.call
    rw [ht, hr, hn]
    simp only [Bool.not_true, Bool.or_self, Bool.false_eq_true, if_false, Option.isSome_none]
    unfold YardM.busy YardM.there YardM.task
    dsimp only
    rw [List.getElem?_set_self (by omega)]
    simp [hw]
theorem WkOk.ask {c : ConfM} {n : Nat} {Y : YardM} {S : Int} {ends : List Int} (h : WkOk c n Y S ends) (w : Int) {k : CallM} (hk : 0 ≤ k.value ∧ k.value < 18446744073709551616) : (askY Y w k).okn (2 * n + 1) ∧ (askY Y w k).gd ∧ (askY Y w k).conf = c ∧ ∃ own sw, WinI (askY Y w k) own sw S := by
  obtain ⟨own, sw, hw⟩ := h.win
  unfold askY
  split
  · exact ⟨h.okn.mono (by omega), h.gd, h.conf, own, sw, hw⟩
  · exact ⟨YardM.call_okn h.okn w hk, YardM.call_gd h.gd w hk, (YardM.call_ext _ _ _).conf.trans h.conf, own, sw, hw.call h.gd w k⟩
theorem WkOk.step {c : ConfM} {n : Nat} (hn : n < 1000) {Y : YardM} {S : Int} {ends : List Int} (h : WkOk c n Y S ends) {w : Int} (hw : 0 ≤ w ∧ w < c.th) {k : CallM} (hr : k.right = true) (hk : 0 ≤ k.value ∧ k.value < 18446744073709551616) :
    (((askY Y w k).step w).1.busy w = false → WkOk c (n + 1) ((askY Y w k).step w).1 0 (ends ++ [(n : Int)])) ∧ (((askY Y w k).step w).1.busy w = true → WkOk c (n + 1) ((askY Y w k).step w).1 (S + 1) ends) := by
  obtain ⟨a1, a2, a3, own, sw, a4⟩ := h.ask w hk
  have hb := ask_busy h.gd (k := k) (by rw [h.conf]; exact hw) hr
  have s1 := YardM.step_okn a1 (by omega) w
  have s2 := YardM.step_gd a2 w
  have s3 : ((askY Y w k).step w).1.conf = c := by
    rcases YardM.step_eq (y := askY Y w k) w with ⟨_, e⟩ | ⟨t, _, _, _, e1, _⟩
    · rw [e]; exact a3
    · rw [e1]; exact a3
  have hst := a4.step a2 hb
  rw [a3] at hst
  have g1 := h.g1
  have g2 := h.g2
  constructor
  · intro hf
    rcases hst with ⟨_, q⟩ | ⟨q, _⟩
    · refine ⟨by rw [show 2 * (n + 1) = 2 * n + 1 + 1 by omega]; exact s1, s2, s3, ⟨_, _, WinI.fresh s2⟩, Int.le_refl _, ?_, ?_, fun x hx => ?_, by have := h.len; simp; omega⟩
      · rw [List.foldl_append]
        show max (ends.foldl gapF (0, -1)).1 ((n : Int) - (ends.foldl gapF (0, -1)).2) ≤ windowM c
        omega
      · rw [List.foldl_append]
        show (n : Int) = _
        omega
      · rcases List.mem_append.1 hx with q | q
        · exact h.each x q
        · simp at q; omega
    · rw [q] at hf; cases hf
  · intro ht
    rcases hst with ⟨q, _⟩ | ⟨_, own', sw', q⟩
    · rw [q] at ht; cases ht
    · exact ⟨by rw [show 2 * (n + 1) = 2 * n + 1 + 1 by omega]; exact s1, s2, s3, ⟨_, _, q⟩, by have := h.s0; omega, g1, by omega, h.each, by have := h.len; omega⟩
theorem and1 (n : Int) : bits .and .i64 n 1 = n % 2 := by
  have h : (BitVec.ofInt 64 1).toNat = 2 ^ 1 - 1 := by decide
  have key : (BitVec.ofInt 64 n &&& BitVec.ofInt 64 1).toNat = (n % ((2 ^ 64 : Nat) : Int)).toNat % 2 ^ 1 := by
    rw [BitVec.toNat_and, BitVec.toNat_ofInt, h, Nat.and_two_pow_sub_one_eq_mod]
  show IntKind.i64.wrap ((BitVec.ofInt 64 n &&& BitVec.ofInt 64 1).toNat : Nat) = n % 2
  rw [key, IntKind.wrap_i64]
  omega
/-- An index that goes round. -/
theorem idx_at {n : Int} {k : Nat} (h0 : 0 ≤ n) (hn : n < 100000) (hk : 0 < k) (hk2 : k ≤ 1000) : ∃ j : Nat, j < k ∧ Int.tmod n (k : Int) = (j : Int) ∧ IntKind.i64.wrap (j : Int) = (j : Int) ∧ ((k : Int) == 0) = false ∧ ¬ (k : Int) = 0 ∧ (0 : Int) ≤ (j : Int) ∧ (j : Int) < (k : Int) ∧ (j : Int).toNat = j := by
  have h1 := Int.emod_nonneg n (b := (k : Int)) (by omega)
  have h2 := Int.emod_lt_of_pos n (b := (k : Int)) (by omega)
  exact ⟨(n % (k : Int)).toNat, by omega, by rw [Int.tmod_eq_emod_of_nonneg h0]; omega, wi (by omega) (by omega), by simp; omega, by omega, by omega, by omega, by omega⟩
theorem th_at {n t : Int} (h0 : 0 ≤ n) (h1 : 1 ≤ t) (h2 : t ≤ 64) : ∃ v : Int, Int.tmod n t = v ∧ 0 ≤ v ∧ v < t ∧ IntKind.i64.wrap v = v ∧ (t == 0) = false ∧ ¬ t = 0 := by
  have := Int.emod_nonneg n (b := t) (by omega)
  have := Int.emod_lt_of_pos n (b := t) (by omega)
  exact ⟨n % t, Int.tmod_eq_emod_of_nonneg h0, by omega, by omega, wi (by omega) (by omega), by simp; omega, by omega⟩
theorem ints_snoc (l : List Int) (x : Int) : ints (l ++ [x]) = ints l ++ [.int .i64 x] := by simp [ints]
section
variable {E w : World} {L : List SA}
theorem work_calls (c : ConfM) (hc : c.ok) (pa : Option Addr) (asks : List AskM) (ca : Nat) (pp : Option Addr) (picks : List Int) (cp : Nat) (hal : asks.length ≤ 1000) (hpl : picks.length ≤ 1000) (hwf : ∀ a ∈ asks, a.wf) (hoa : OldS AskM.v 4 E pa asks) (hop : OldS intV 1 E pp picks) (h : sat E w L) :
    Calls Tryz.prog 37 #[confVal c, .slice pa asks.length ca, .slice pp picks.length cp, .int .i64 900] w fun e w' => ∃ gy p1 k1 ends Y, e = .returned (.tuple #[.pointer (some ⟨gy, 0, none⟩), .slice p1 (List.length ends) k1]) ∧ gapsM ends 900 ≤ windowM c ∧ (∀ x ∈ ends, 0 ≤ x ∧ x ≤ 100000) ∧ ends.length ≤ 900 ∧ sat E w' (rowA (.slice p1 ends.length k1) 3 1 ends.length (ints ends) :: yardA gy Y :: L) := by
  have K := Lib.hid h
  have HA := Lib.hid hoa
  have HP := Lib.hid hop
  have HW := Lib.hid hwf
  have HC := Lib.hid hc
  have NW := fun w' (M : List SA) (h : sat E w' M) => Lib.hid (ynew_calls c hc h)
  have W0 := Lib.hid (WkOk.new hc)
  have hth1 := hc.th1
  have hth2 := hc.th2
  clear h hoa hop hwf hc
  go_enter Tryz.func37, Tryz.ntmps37
  go_wp2_with (first | ((with_reducible refine at_box ?_); refine st_boxf K.out rfl rfl (fun _ => rfl) ?_; intro gc w1 K1; have K2 := Lib.hid K1; clear K1 K; (try clear a0); (try clear l0); (try clear a1); (try clear l1); (try clear a2); (try clear l2); have K := K2; clear K2; have a0 := K.out.rd 0 rfl; have l0 := K.out.ltp 0 rfl) | (go_at_call 11; (with_reducible refine ((NW _ _ (show sat E _ _ from by iterate 6 (try (with_reducible first | exact K.out | apply sat.alloc_any | apply sat.drew | apply sat.drewN)))).out).mono ?_); rintro e w1 ⟨gy, rfl, K1⟩; have K2 := Lib.hid K1; clear K1 K; (try clear a0); (try clear l0); (try clear a1); (try clear l1); (try clear a2); (try clear l2); have K := K2; clear K2))
  have K1 : sat E _ (rowA (.slice (some ⟨_, 0, none⟩) 0 0) 3 1 0 [] :: yardA gy (YardM.new c) :: confP gc c :: L) := (sat.row_empty (e := 3) (size := 1) K.out)
  clear K
  have K := Lib.hid K1
  clear K1
  go_loopg [14, 12, 13] 900 (fun GG i nx en w' => ∃ (n : Nat) (x S : Int) (ends : List Int) (p1 : Option Addr) (k1 : Nat) (Y : YardM), n + GG = 900 ∧ i = .int .i64 n ∧ nx = .int .i64 x ∧ (0 ≤ x ∧ x ≤ n) ∧ en = .slice p1 ends.length k1 ∧ WkOk c n Y S ends ∧ sat E w' (rowA (.slice p1 ends.length k1) 3 1 ends.length (ints ends) :: yardA gy Y :: confP gc c :: L))
  case atStart => exact ⟨0, 0, 0, [], _, _, YardM.new c, by simp, rfl, rfl, by simp, rfl, W0.out, K.out⟩
  case round =>
    obtain ⟨n, x, S, ends, p1, k1, Y, hn, rfl, rfl, hx, rfl, hW, hs⟩ := hrel
    clear K
    have K := Lib.hid hs
    clear hs
    have a2 := K.out.rd 2 rfl
    have l2 := K.out.ltp 2 rfl
    have HN := Lib.hid hn
    by_cases hlt : n < 900
    · have d0 : decide (n < 900) = true := by simpa using hlt
      have d1 : decide ((n : Int) < 900) = true := by simp; omega
      obtain ⟨gk', rfl⟩ : ∃ g', gk = g' + 1 := ⟨gk - 1, by omega⟩
      obtain ⟨u, eu, _, _, wu, zt1, zt2⟩ := th_at (n := (n : Int)) (by omega) hth1 hth2
      have hW2 := Lib.hid hW
      have vx : wrap64 (x + 1) = x + 1 := w64 (by omega) (by omega)
      have ax := and1 x
      have hn9 : n < 1000 := by omega
      have hx9 : x < 1000 := by omega
      have hx0 : 0 ≤ x := hx.1
      have hxn := Lib.hid hx
      clear hn hlt W0 hx
      rcases Nat.eq_zero_or_pos picks.length with hp | hp
      · have dp : decide ((picks.length : Int) > 0) = false := by rw [decide_eq_false_iff_not]; omega
        have dp2 : decide (0 < picks.length) = false := by rw [decide_eq_false_iff_not]; omega
        clear hp
        obtain ⟨wv, hwv, hw0, hw1⟩ : ∃ z, z = u ∧ 0 ≤ z ∧ z < c.th := ⟨u, rfl, by assumption, by assumption⟩
        subst hwv
        have hgd := hW2.out.gd
        have hcf := hW2.out.conf
        have hle := hW2.out.len
        have hok := hW2.out.okn.ok (by omega)
        have BC := fun w' (M : List SA) (h : sat E w' (yardA gy Y :: M)) => Lib.hid (ybusy_calls gy Y hok wv h)
        by_cases hb : Y.busy wv = true
        · rw [hb] at BC
          have ST := Lib.hid (hW2.out.step hn9 (w := wv) ⟨hw0, hw1⟩ (k := ⟨0, 0, 0, 0⟩) rfl (by decide))
          have hAsk : askY Y wv ⟨0, 0, 0, 0⟩ = Y := if_pos hb
          rw [hAsk] at ST
          have SC := fun w' (M : List SA) (h : sat E w' (yardA gy Y :: M)) => Lib.hid (ystep_calls gy Y hok wv (by have := hW2.out.okn.m1; omega) (by have := hW2.out.okn.log; omega) h)
          have hok2 := (YardM.step_okn hW2.out.okn (by omega) wv).ok (by omega)
          obtain ⟨Y2, hY2⟩ : ∃ z, z = (Y.step wv).1 := ⟨_, rfl⟩
          rw [← hY2] at ST SC hok2
          have B2 := fun w' (M : List SA) (h : sat E w' (yardA gy Y2 :: M)) => Lib.hid (ybusy_calls gy Y2 hok2 wv h)
          clear hAsk hY2 hgd hcf
          cases hb2 : Y2.busy wv
          · as_aux_lemma =>
              rw [hb2] at B2
              go_wp2_with (first | (go_at_call 24; (with_reducible refine (BC _ _ (K.out.pick 1 rfl)).out.mono ?_); rintro e w1 ⟨rfl, rfl⟩) | (go_at_call 23; (with_reducible refine ((SC _ _ ((show sat E _ _ from by iterate 6 (try (with_reducible first | exact K.out | apply sat.alloc_any | apply sat.drew | apply sat.drewN))).pick 1 rfl)).out).mono ?_); rintro e w1 ⟨rfl, K1⟩; replace K1 := K1.pick 1 rfl; have K2 := Lib.hid K1; clear K1 K; (try clear a0); (try clear l0); (try clear a1); (try clear l1); (try clear a2); (try clear l2); have K := K2; clear K2; have a2 := K.out.rd 2 rfl; have l2 := K.out.ltp 2 rfl) | (go_at_call 24; (with_reducible refine (B2 _ _ (K.out.pick 1 rfl)).out.mono ?_); rintro e w1 ⟨rfl, rfl⟩) | ((with_reducible refine at_append ?_); refine st_append_new 0 3 1 8 Tryz.underlying58 intInfoW K.out rfl rfl rfl rfl ?_ Nat.one_pos ?_ ?_ ?_; (· simp [Value.oneCell']); (· simp only [maxLen]; omega); (· omega); intro p2 n2 c2 w1 K1; simp only [List.set] at K1; have K2 := Lib.hid K1; clear K1 K; (try clear a0); (try clear l0); (try clear a1); (try clear l1); (try clear a2); (try clear l2); have K := K2; clear K2; have a2 := K.out.rd 2 rfl; have l2 := K.out.ltp 2 rfl))
              go_roundg gk'
              case measure => omega
              case rel => exact ⟨n + 1, x, 0, ends ++ [(n : Int)], p2, c2, Y2, by have := HN.out; omega, by first | (simp; done) | (simp; exact w64 (by omega) (by omega)), rfl, by have := hxn.out; omega, by obtain ⟨q, _⟩ := Go.SepYtegdhojhnmgjgaaGreat.row_len (show sat E _ (rowA (.slice p2 n2 c2) _ _ _ _ :: _) from K.out); subst q; simp, ST.out.1 hb2, by rw [ints_snoc, List.length_append]; obtain ⟨q, _⟩ := Go.SepYtegdhojhnmgjgaaGreat.row_len (show sat E _ (rowA (.slice p2 n2 c2) _ _ _ _ :: _) from K.out); subst q; exact K.out⟩
          · as_aux_lemma =>
              rw [hb2] at B2
              go_wp2_with (first | (go_at_call 24; (with_reducible refine (BC _ _ (K.out.pick 1 rfl)).out.mono ?_); rintro e w1 ⟨rfl, rfl⟩) | (go_at_call 23; (with_reducible refine ((SC _ _ ((show sat E _ _ from by iterate 6 (try (with_reducible first | exact K.out | apply sat.alloc_any | apply sat.drew | apply sat.drewN))).pick 1 rfl)).out).mono ?_); rintro e w1 ⟨rfl, K1⟩; replace K1 := K1.pick 1 rfl; have K2 := Lib.hid K1; clear K1 K; (try clear a0); (try clear l0); (try clear a1); (try clear l1); (try clear a2); (try clear l2); have K := K2; clear K2; have a2 := K.out.rd 2 rfl; have l2 := K.out.ltp 2 rfl) | (go_at_call 24; (with_reducible refine (B2 _ _ (K.out.pick 1 rfl)).out.mono ?_); rintro e w1 ⟨rfl, rfl⟩))
              go_roundg gk'
              case measure => omega
              case rel => exact ⟨n + 1, x, S + 1, ends, p1, k1, Y2, by have := HN.out; omega, by first | (simp; done) | (simp; exact w64 (by omega) (by omega)), rfl, by have := hxn.out; omega, rfl, ST.out.2 hb2, K.out⟩
        · have hb' : Y.busy wv = false := by simpa using hb
          rw [hb'] at BC
          rcases Nat.eq_zero_or_pos asks.length with ha | ha
          · have da : decide ((asks.length : Int) > 0) = false := by rw [decide_eq_false_iff_not]; omega
            have da2 : decide (0 < asks.length) = false := by rw [decide_eq_false_iff_not]; omega
            clear ha
            obtain ⟨am, ham⟩ : ∃ z : AskM, z = ⟨x % 2 == 1, false, 0, 0⟩ := ⟨_, rfl⟩
            have hav : am.wf := by rw [ham]; exact ⟨Int.le_refl _, by show (0 : Int) < _; omega⟩
            have ST := Lib.hid (hW2.out.step hn9 (w := wv) ⟨hw0, hw1⟩ (k := am.call) am.call_right hav)
            have hAsk : askY Y wv am.call = (Y.call wv am.call).1 := if_neg hb
            rw [hAsk] at ST
            have MK := fun w => Lib.hid (show Tells 40 #[.bool (x % 2 == 1), .bool false, .int .u64 0, .int .i64 0] w (callV am.call) from by rw [ham]; exact make_calls _ _ _ _ w)
            have CC := fun w' (M : List SA) (h : sat E w' (yardA gy Y :: M)) => Lib.hid (ycall_calls gy Y hok wv am.call (by have := hW2.out.okn.dl; omega) (by have := hW2.out.okn.m1; omega) h)
            have hokn1 := YardM.call_okn hW2.out.okn wv (k := am.call) hav
            obtain ⟨Y1, hY1⟩ : ∃ z, z = (Y.call wv am.call).1 := ⟨_, rfl⟩
            rw [← hY1] at ST CC hokn1
            have SC := fun w' (M : List SA) (h : sat E w' (yardA gy Y1 :: M)) => Lib.hid (ystep_calls gy Y1 (hokn1.ok (by omega)) wv (by have := hokn1.m1; omega) (by have := hokn1.log; omega) h)
            have hok2 := (YardM.step_okn hokn1 (by omega) wv).ok (by omega)
            obtain ⟨Y2, hY2⟩ : ∃ z, z = (Y1.step wv).1 := ⟨_, rfl⟩
            rw [← hY2] at ST SC hok2
            have B2 := fun w' (M : List SA) (h : sat E w' (yardA gy Y2 :: M)) => Lib.hid (ybusy_calls gy Y2 hok2 wv h)
            clear hAsk hY1 hY2 hokn1 hgd hcf hav
            clear ham
            cases hb2 : Y2.busy wv
            · as_aux_lemma =>
                rw [hb2] at B2
                go_wp2_with (first | (go_at_call 24; (with_reducible refine (BC _ _ (K.out.pick 1 rfl)).out.mono ?_); rintro e w1 ⟨rfl, rfl⟩) | (((with_reducible refine at_alloc ?_); refine st_allocf K.out (fun _ => rfl) ?_; intro ga w1 K1; have K2 := Lib.hid K1; clear K1 K; (try clear a0); (try clear l0); (try clear a1); (try clear l1); (try clear a2); (try clear l2); have K := K2; clear K2; have a0 := K.out.rd 0 rfl; have l0 := K.out.ltp 0 rfl; have a3 := K.out.rd 3 rfl; have l3 := K.out.ltp 3 rfl)) | (((with_reducible refine at_store ?_); refine st_store 0 K.out rfl rfl rfl rfl ?_ ?_ ?_ ?_; (· kernel_rfl); (· simp); (· simp [Value.oneCell']); intro w1 K1; simp only [List.set, putL] at K1; have K2 := Lib.hid K1; clear K1 K; (try clear a0); (try clear l0); (try clear a1); (try clear l1); (try clear a2); (try clear l2); have K := K2; clear K2; have a0 := K.out.rd 0 rfl; have l0 := K.out.ltp 0 rfl; have a3 := K.out.rd 3 rfl; have l3 := K.out.ltp 3 rfl)) | (go_at_call 40; (with_reducible refine ((MK _).out).mono ?_); rintro e w1 ⟨rfl, hb⟩; have K1 := sat.grown (by repeat (with_reducible first | exact K.out | apply sat.alloc_any | apply sat.drew | apply sat.drewN)) hb; clear hb; have K2 := Lib.hid K1; clear K1 K; (try clear a0); (try clear l0); (try clear a1); (try clear l1); (try clear a2); (try clear l2); have K := K2; clear K2; have a0 := K.out.rd 0 rfl; have l0 := K.out.ltp 0 rfl; have a3 := K.out.rd 3 rfl; have l3 := K.out.ltp 3 rfl) | (go_at_call 19; (with_reducible refine ((CC _ _ ((show sat E _ _ from by iterate 6 (try (with_reducible first | exact K.out | apply sat.alloc_any | apply sat.drew | apply sat.drewN))).pick 2 rfl)).out).mono ?_); rintro e w1 ⟨rfl, K1⟩; replace K1 := (K1.pick 2 rfl).pick 2 rfl; have K2 := Lib.hid K1; clear K1 K; (try clear a0); (try clear l0); (try clear a1); (try clear l1); (try clear a2); (try clear l2); have K := K2; clear K2; have a0 := K.out.rd 0 rfl; have l0 := K.out.ltp 0 rfl; have a3 := K.out.rd 3 rfl; have l3 := K.out.ltp 3 rfl) | (go_at_call 23; (with_reducible refine ((SC _ _ ((show sat E _ _ from by iterate 6 (try (with_reducible first | exact K.out | apply sat.alloc_any | apply sat.drew | apply sat.drewN))).pick 2 rfl)).out).mono ?_); rintro e w1 ⟨rfl, K1⟩; replace K1 := (K1.pick 2 rfl).pick 2 rfl; have K2 := Lib.hid K1; clear K1 K; (try clear a0); (try clear l0); (try clear a1); (try clear l1); (try clear a2); (try clear l2); have K := K2; clear K2; have a0 := K.out.rd 0 rfl; have l0 := K.out.ltp 0 rfl; have a3 := K.out.rd 3 rfl; have l3 := K.out.ltp 3 rfl) | (go_at_call 24; (with_reducible refine (B2 _ _ (K.out.pick 2 rfl)).out.mono ?_); rintro e w1 ⟨rfl, rfl⟩) | ((with_reducible refine at_append ?_); refine st_append_new 1 3 1 8 Tryz.underlying58 intInfoW K.out rfl rfl rfl rfl ?_ Nat.one_pos ?_ ?_ ?_; (· simp [Value.oneCell']); (· simp only [maxLen]; omega); (· omega); intro p2 n2 c2 w1 K1; simp only [List.set] at K1; have K2 := Lib.hid K1; clear K1 K; (try clear a0); (try clear l0); (try clear a1); (try clear l1); (try clear a2); (try clear l2); have K := K2; clear K2; have a0 := K.out.rd 0 rfl; have l0 := K.out.ltp 0 rfl; have a3 := K.out.rd 3 rfl; have l3 := K.out.ltp 3 rfl))
                go_roundg gk'
                case measure => omega
                case rel => exact ⟨n + 1, x + 1, 0, ends ++ [(n : Int)], p2, c2, Y2, by have := HN.out; omega, by first | (simp; done) | (simp; exact w64 (by omega) (by omega)), rfl, by have := hxn.out; omega, by obtain ⟨q, _⟩ := Go.SepYtegdhojhnmgjgaaGreat.row_len (show sat E _ (rowA (.slice p2 n2 c2) _ _ _ _ :: _) from K.out.drop); subst q; simp, ST.out.1 hb2, by rw [ints_snoc, List.length_append]; obtain ⟨q, _⟩ := Go.SepYtegdhojhnmgjgaaGreat.row_len (show sat E _ (rowA (.slice p2 n2 c2) _ _ _ _ :: _) from K.out.drop); subst q; exact K.out.drop⟩
            · as_aux_lemma =>
                rw [hb2] at B2
                go_wp2_with (first | (go_at_call 24; (with_reducible refine (BC _ _ (K.out.pick 1 rfl)).out.mono ?_); rintro e w1 ⟨rfl, rfl⟩) | (((with_reducible refine at_alloc ?_); refine st_allocf K.out (fun _ => rfl) ?_; intro ga w1 K1; have K2 := Lib.hid K1; clear K1 K; (try clear a0); (try clear l0); (try clear a1); (try clear l1); (try clear a2); (try clear l2); have K := K2; clear K2; have a0 := K.out.rd 0 rfl; have l0 := K.out.ltp 0 rfl; have a3 := K.out.rd 3 rfl; have l3 := K.out.ltp 3 rfl)) | (((with_reducible refine at_store ?_); refine st_store 0 K.out rfl rfl rfl rfl ?_ ?_ ?_ ?_; (· kernel_rfl); (· simp); (· simp [Value.oneCell']); intro w1 K1; simp only [List.set, putL] at K1; have K2 := Lib.hid K1; clear K1 K; (try clear a0); (try clear l0); (try clear a1); (try clear l1); (try clear a2); (try clear l2); have K := K2; clear K2; have a0 := K.out.rd 0 rfl; have l0 := K.out.ltp 0 rfl; have a3 := K.out.rd 3 rfl; have l3 := K.out.ltp 3 rfl)) | (go_at_call 40; (with_reducible refine ((MK _).out).mono ?_); rintro e w1 ⟨rfl, hb⟩; have K1 := sat.grown (by repeat (with_reducible first | exact K.out | apply sat.alloc_any | apply sat.drew | apply sat.drewN)) hb; clear hb; have K2 := Lib.hid K1; clear K1 K; (try clear a0); (try clear l0); (try clear a1); (try clear l1); (try clear a2); (try clear l2); have K := K2; clear K2; have a0 := K.out.rd 0 rfl; have l0 := K.out.ltp 0 rfl; have a3 := K.out.rd 3 rfl; have l3 := K.out.ltp 3 rfl) | (go_at_call 19; (with_reducible refine ((CC _ _ ((show sat E _ _ from by iterate 6 (try (with_reducible first | exact K.out | apply sat.alloc_any | apply sat.drew | apply sat.drewN))).pick 2 rfl)).out).mono ?_); rintro e w1 ⟨rfl, K1⟩; replace K1 := (K1.pick 2 rfl).pick 2 rfl; have K2 := Lib.hid K1; clear K1 K; (try clear a0); (try clear l0); (try clear a1); (try clear l1); (try clear a2); (try clear l2); have K := K2; clear K2; have a0 := K.out.rd 0 rfl; have l0 := K.out.ltp 0 rfl; have a3 := K.out.rd 3 rfl; have l3 := K.out.ltp 3 rfl) | (go_at_call 23; (with_reducible refine ((SC _ _ ((show sat E _ _ from by iterate 6 (try (with_reducible first | exact K.out | apply sat.alloc_any | apply sat.drew | apply sat.drewN))).pick 2 rfl)).out).mono ?_); rintro e w1 ⟨rfl, K1⟩; replace K1 := (K1.pick 2 rfl).pick 2 rfl; have K2 := Lib.hid K1; clear K1 K; (try clear a0); (try clear l0); (try clear a1); (try clear l1); (try clear a2); (try clear l2); have K := K2; clear K2; have a0 := K.out.rd 0 rfl; have l0 := K.out.ltp 0 rfl; have a3 := K.out.rd 3 rfl; have l3 := K.out.ltp 3 rfl) | (go_at_call 24; (with_reducible refine (B2 _ _ (K.out.pick 2 rfl)).out.mono ?_); rintro e w1 ⟨rfl, rfl⟩))
                go_roundg gk'
                case measure => omega
                case rel => exact ⟨n + 1, x + 1, S + 1, ends, p1, k1, Y2, by have := HN.out; omega, by first | (simp; done) | (simp; exact w64 (by omega) (by omega)), rfl, by have := hxn.out; omega, rfl, ST.out.2 hb2, K.out.drop⟩
          · have da : decide ((asks.length : Int) > 0) = true := by rw [decide_eq_true_eq]; omega
            have da2 : decide (0 < asks.length) = true := by rw [decide_eq_true_eq]; omega
            have za : ¬ asks = [] := fun h => by rw [h] at ha; simp at ha
            obtain ⟨ja, q1, q2, q3, q4, q5, q6, q7, q8⟩ := idx_at (n := x) hx0 (by omega) ha hal
            obtain ⟨ba, oa, hqa, hba, hxa⟩ := HA.out ja q1
            obtain ⟨am, ham⟩ : ∃ z : AskM, z = asks[ja] := ⟨_, rfl⟩
            have hav : am.wf := by rw [ham]; exact HW.out _ (List.getElem_mem _)
            have HY := Lib.hid (show ∀ w', Below E.heap.size E w' → w'.cell? ⟨ba, oa + ja * 4, none⟩ = some (.bool am.take) ∧ w'.cell? ⟨ba, oa + ja * 4 + 1, none⟩ = some (.bool am.right) ∧ w'.cell? ⟨ba, oa + ja * 4 + 2, none⟩ = some (.int .u64 am.value) ∧ w'.cell? ⟨ba, oa + ja * 4 + 3, none⟩ = some (.int .i64 am.start) from fun w' hbw => by rw [ham]; exact ⟨(hbw.cell (p := ⟨ba, oa + ja * 4, none⟩) hba).trans (hxa 0 _ rfl), (hbw.cell (p := ⟨ba, oa + ja * 4 + 1, none⟩) hba).trans (hxa 1 _ rfl), (hbw.cell (p := ⟨ba, oa + ja * 4 + 2, none⟩) hba).trans (hxa 2 _ rfl), (hbw.cell (p := ⟨ba, oa + ja * 4 + 3, none⟩) hba).trans (hxa 3 _ rfl)⟩)
            clear hxa ham
            subst hqa
            have ST := Lib.hid (hW2.out.step hn9 (w := wv) ⟨hw0, hw1⟩ (k := am.call) am.call_right hav)
            have hAsk : askY Y wv am.call = (Y.call wv am.call).1 := if_neg hb
            rw [hAsk] at ST
            have MK := fun w => Lib.hid (show Tells 40 #[.bool am.take, .bool am.right, .int .u64 am.value, .int .i64 am.start] w (callV am.call) from make_calls _ _ _ _ w)
            have CC := fun w' (M : List SA) (h : sat E w' (yardA gy Y :: M)) => Lib.hid (ycall_calls gy Y hok wv am.call (by have := hW2.out.okn.dl; omega) (by have := hW2.out.okn.m1; omega) h)
            have hokn1 := YardM.call_okn hW2.out.okn wv (k := am.call) hav
            obtain ⟨Y1, hY1⟩ : ∃ z, z = (Y.call wv am.call).1 := ⟨_, rfl⟩
            rw [← hY1] at ST CC hokn1
            have SC := fun w' (M : List SA) (h : sat E w' (yardA gy Y1 :: M)) => Lib.hid (ystep_calls gy Y1 (hokn1.ok (by omega)) wv (by have := hokn1.m1; omega) (by have := hokn1.log; omega) h)
            have hok2 := (YardM.step_okn hokn1 (by omega) wv).ok (by omega)
            obtain ⟨Y2, hY2⟩ : ∃ z, z = (Y1.step wv).1 := ⟨_, rfl⟩
            rw [← hY2] at ST SC hok2
            have B2 := fun w' (M : List SA) (h : sat E w' (yardA gy Y2 :: M)) => Lib.hid (ybusy_calls gy Y2 hok2 wv h)
            clear hAsk hY1 hY2 hokn1 hgd hcf hav
            obtain ⟨y0, y1, y2, y3⟩ := HY.out _ (show sat E _ _ from (by repeat (with_reducible first | exact K.out | apply sat.alloc_any | apply sat.drew | apply sat.drewN))).below
            cases hb2 : Y2.busy wv
            · as_aux_lemma =>
                rw [hb2] at B2
                go_wp2_with (first | (go_at_call 24; (with_reducible refine (BC _ _ (K.out.pick 1 rfl)).out.mono ?_); rintro e w1 ⟨rfl, rfl⟩) | (((with_reducible refine at_alloc ?_); refine st_allocf K.out (fun _ => rfl) ?_; intro ga w1 K1; have K2 := Lib.hid K1; clear K1 K; (try clear a0); (try clear l0); (try clear a1); (try clear l1); (try clear a2); (try clear l2); have K := K2; clear K2; have a0 := K.out.rd 0 rfl; have l0 := K.out.ltp 0 rfl; have a3 := K.out.rd 3 rfl; have l3 := K.out.ltp 3 rfl); (try clear y0); (try clear y1); (try clear y2); (try clear y3); obtain ⟨y0, y1, y2, y3⟩ := HY.out _ K.out.below) | (((with_reducible refine at_store ?_); refine st_store 0 K.out rfl rfl rfl rfl ?_ ?_ ?_ ?_; (· kernel_rfl); (· simp); (· simp [Value.oneCell']); intro w1 K1; simp only [List.set, putL] at K1; have K2 := Lib.hid K1; clear K1 K; (try clear a0); (try clear l0); (try clear a1); (try clear l1); (try clear a2); (try clear l2); have K := K2; clear K2; have a0 := K.out.rd 0 rfl; have l0 := K.out.ltp 0 rfl; have a3 := K.out.rd 3 rfl; have l3 := K.out.ltp 3 rfl); (try clear y0); (try clear y1); (try clear y2); (try clear y3); obtain ⟨y0, y1, y2, y3⟩ := HY.out _ K.out.below) | (go_at_call 40; (with_reducible refine ((MK _).out).mono ?_); rintro e w1 ⟨rfl, hb⟩; have K1 := sat.grown (by repeat (with_reducible first | exact K.out | apply sat.alloc_any | apply sat.drew | apply sat.drewN)) hb; clear hb; have K2 := Lib.hid K1; clear K1 K; (try clear a0); (try clear l0); (try clear a1); (try clear l1); (try clear a2); (try clear l2); have K := K2; clear K2; have a0 := K.out.rd 0 rfl; have l0 := K.out.ltp 0 rfl; have a3 := K.out.rd 3 rfl; have l3 := K.out.ltp 3 rfl) | (go_at_call 19; (with_reducible refine ((CC _ _ ((show sat E _ _ from by iterate 6 (try (with_reducible first | exact K.out | apply sat.alloc_any | apply sat.drew | apply sat.drewN))).pick 2 rfl)).out).mono ?_); rintro e w1 ⟨rfl, K1⟩; replace K1 := (K1.pick 2 rfl).pick 2 rfl; have K2 := Lib.hid K1; clear K1 K; (try clear a0); (try clear l0); (try clear a1); (try clear l1); (try clear a2); (try clear l2); have K := K2; clear K2; have a0 := K.out.rd 0 rfl; have l0 := K.out.ltp 0 rfl; have a3 := K.out.rd 3 rfl; have l3 := K.out.ltp 3 rfl) | (go_at_call 23; (with_reducible refine ((SC _ _ ((show sat E _ _ from by iterate 6 (try (with_reducible first | exact K.out | apply sat.alloc_any | apply sat.drew | apply sat.drewN))).pick 2 rfl)).out).mono ?_); rintro e w1 ⟨rfl, K1⟩; replace K1 := (K1.pick 2 rfl).pick 2 rfl; have K2 := Lib.hid K1; clear K1 K; (try clear a0); (try clear l0); (try clear a1); (try clear l1); (try clear a2); (try clear l2); have K := K2; clear K2; have a0 := K.out.rd 0 rfl; have l0 := K.out.ltp 0 rfl; have a3 := K.out.rd 3 rfl; have l3 := K.out.ltp 3 rfl) | (go_at_call 24; (with_reducible refine (B2 _ _ (K.out.pick 2 rfl)).out.mono ?_); rintro e w1 ⟨rfl, rfl⟩) | ((with_reducible refine at_append ?_); refine st_append_new 1 3 1 8 Tryz.underlying58 intInfoW K.out rfl rfl rfl rfl ?_ Nat.one_pos ?_ ?_ ?_; (· simp [Value.oneCell']); (· simp only [maxLen]; omega); (· omega); intro p2 n2 c2 w1 K1; simp only [List.set] at K1; have K2 := Lib.hid K1; clear K1 K; (try clear a0); (try clear l0); (try clear a1); (try clear l1); (try clear a2); (try clear l2); have K := K2; clear K2; have a0 := K.out.rd 0 rfl; have l0 := K.out.ltp 0 rfl; have a3 := K.out.rd 3 rfl; have l3 := K.out.ltp 3 rfl))
                go_roundg gk'
                case measure => omega
                case rel => exact ⟨n + 1, x + 1, 0, ends ++ [(n : Int)], p2, c2, Y2, by have := HN.out; omega, by first | (simp; done) | (simp; exact w64 (by omega) (by omega)), rfl, by have := hxn.out; omega, by obtain ⟨q, _⟩ := Go.SepYtegdhojhnmgjgaaGreat.row_len (show sat E _ (rowA (.slice p2 n2 c2) _ _ _ _ :: _) from K.out.drop); subst q; simp, ST.out.1 hb2, by rw [ints_snoc, List.length_append]; obtain ⟨q, _⟩ := Go.SepYtegdhojhnmgjgaaGreat.row_len (show sat E _ (rowA (.slice p2 n2 c2) _ _ _ _ :: _) from K.out.drop); subst q; exact K.out.drop⟩
            · as_aux_lemma =>
                rw [hb2] at B2
                go_wp2_with (first | (go_at_call 24; (with_reducible refine (BC _ _ (K.out.pick 1 rfl)).out.mono ?_); rintro e w1 ⟨rfl, rfl⟩) | (((with_reducible refine at_alloc ?_); refine st_allocf K.out (fun _ => rfl) ?_; intro ga w1 K1; have K2 := Lib.hid K1; clear K1 K; (try clear a0); (try clear l0); (try clear a1); (try clear l1); (try clear a2); (try clear l2); have K := K2; clear K2; have a0 := K.out.rd 0 rfl; have l0 := K.out.ltp 0 rfl; have a3 := K.out.rd 3 rfl; have l3 := K.out.ltp 3 rfl); (try clear y0); (try clear y1); (try clear y2); (try clear y3); obtain ⟨y0, y1, y2, y3⟩ := HY.out _ K.out.below) | (((with_reducible refine at_store ?_); refine st_store 0 K.out rfl rfl rfl rfl ?_ ?_ ?_ ?_; (· kernel_rfl); (· simp); (· simp [Value.oneCell']); intro w1 K1; simp only [List.set, putL] at K1; have K2 := Lib.hid K1; clear K1 K; (try clear a0); (try clear l0); (try clear a1); (try clear l1); (try clear a2); (try clear l2); have K := K2; clear K2; have a0 := K.out.rd 0 rfl; have l0 := K.out.ltp 0 rfl; have a3 := K.out.rd 3 rfl; have l3 := K.out.ltp 3 rfl); (try clear y0); (try clear y1); (try clear y2); (try clear y3); obtain ⟨y0, y1, y2, y3⟩ := HY.out _ K.out.below) | (go_at_call 40; (with_reducible refine ((MK _).out).mono ?_); rintro e w1 ⟨rfl, hb⟩; have K1 := sat.grown (by repeat (with_reducible first | exact K.out | apply sat.alloc_any | apply sat.drew | apply sat.drewN)) hb; clear hb; have K2 := Lib.hid K1; clear K1 K; (try clear a0); (try clear l0); (try clear a1); (try clear l1); (try clear a2); (try clear l2); have K := K2; clear K2; have a0 := K.out.rd 0 rfl; have l0 := K.out.ltp 0 rfl; have a3 := K.out.rd 3 rfl; have l3 := K.out.ltp 3 rfl) | (go_at_call 19; (with_reducible refine ((CC _ _ ((show sat E _ _ from by iterate 6 (try (with_reducible first | exact K.out | apply sat.alloc_any | apply sat.drew | apply sat.drewN))).pick 2 rfl)).out).mono ?_); rintro e w1 ⟨rfl, K1⟩; replace K1 := (K1.pick 2 rfl).pick 2 rfl; have K2 := Lib.hid K1; clear K1 K; (try clear a0); (try clear l0); (try clear a1); (try clear l1); (try clear a2); (try clear l2); have K := K2; clear K2; have a0 := K.out.rd 0 rfl; have l0 := K.out.ltp 0 rfl; have a3 := K.out.rd 3 rfl; have l3 := K.out.ltp 3 rfl) | (go_at_call 23; (with_reducible refine ((SC _ _ ((show sat E _ _ from by iterate 6 (try (with_reducible first | exact K.out | apply sat.alloc_any | apply sat.drew | apply sat.drewN))).pick 2 rfl)).out).mono ?_); rintro e w1 ⟨rfl, K1⟩; replace K1 := (K1.pick 2 rfl).pick 2 rfl; have K2 := Lib.hid K1; clear K1 K; (try clear a0); (try clear l0); (try clear a1); (try clear l1); (try clear a2); (try clear l2); have K := K2; clear K2; have a0 := K.out.rd 0 rfl; have l0 := K.out.ltp 0 rfl; have a3 := K.out.rd 3 rfl; have l3 := K.out.ltp 3 rfl) | (go_at_call 24; (with_reducible refine (B2 _ _ (K.out.pick 2 rfl)).out.mono ?_); rintro e w1 ⟨rfl, rfl⟩))
                go_roundg gk'
                case measure => omega
                case rel => exact ⟨n + 1, x + 1, S + 1, ends, p1, k1, Y2, by have := HN.out; omega, by first | (simp; done) | (simp; exact w64 (by omega) (by omega)), rfl, by have := hxn.out; omega, rfl, ST.out.2 hb2, K.out.drop⟩
      · have dp : decide ((picks.length : Int) > 0) = true := by rw [decide_eq_true_eq]; omega
        have dp2 : decide (0 < picks.length) = true := by rw [decide_eq_true_eq]; omega
        have zp : ¬ picks = [] := fun h => by rw [h] at hp; simp at hp
        obtain ⟨j, j1, j2, j3, j4, j5, j6, j7, j8⟩ := idx_at (n := (n : Int)) (by omega) (by omega) hp hpl
        obtain ⟨bp, op, hq, hbp, hxp⟩ := HP.out j j1
        have HX := Lib.hid (show ∀ w', Below E.heap.size E w' → w'.cell? ⟨bp, op + j, none⟩ = some (.int .i64 picks[j]) from fun w' hb => (hb.cell (p := ⟨bp, op + j, none⟩) hbp).trans (by have := hxp 0 (.int .i64 picks[j]) rfl; simpa using this))
        clear hxp
        subst hq
        generalize picks[j] = xp at *
        have ap := and16 xp
        obtain ⟨wv, ew, hw0, hw1, ww, _, _⟩ := th_at (n := xp % 65536) (by omega) hth1 hth2
        go_wp2_with fail
        refine wp_region_noPanic ?_
        refine wp_region_held_drew (S := (fun w' => (∀ q, w'.cell? ⟨gc, q, none⟩ = ([.int .i64 c.th, .int .i64 c.sl, .int .i64 c.src, .int .i64 c.dl] : List Value)[q]?) ∧ w'.cell? ⟨bp, op + j, none⟩ = some (.int .i64 xp))) (by kernel_rfl) ?_ (fun hHeld => ?_)
        · ((try dsimp only); (exact ⟨sat.rd 2 (by repeat (with_reducible first | exact K.out | apply sat.alloc_any | apply sat.drew | apply sat.drewN)) rfl, HX.out _ (show sat E _ _ from (by repeat (with_reducible first | exact K.out | apply sat.alloc_any | apply sat.drew | apply sat.drewN))).below⟩))
        refine tk 0 (some 37) ?_
        (try simp only [Act.put, p0, p1, p2])
        refine tk 1 (some 38) ?_
        (try simp only [Act.put, p0, p1, p2])
        refine tk 2 (some 39) ?_
        (try simp only [Act.put, p0, p1, p2])
        refine tk 3 (some 40) ?_
        (try simp only [Act.put, p0, p1, p2])
        refine tk 4 (some 41) ?_
        (try simp only [Act.put, p0, p1, p2])
        refine tk 5 (some 42) ?_
        (try simp only [Act.put, p0, p1, p2])
        refine tk 6 (some 43) ?_
        (try simp only [Act.put, p0, p1, p2])
        refine tk 7 (some 44) ?_
        (try simp only [Act.put, p0, p1, p2])
        refine tk 8 (some 45) ?_
        (try simp only [Act.put, p0, p1, p2])
        refine tk 9 (some 46) ?_
        (try simp only [Act.put, p0, p1, p2])
        refine tk 10 (some 47) ?_
        (try simp only [Act.put, p0, p1, p2])
        refine tk 11 (some 15) ?_
        (try simp only [Act.put, p0, p1, p2])
        refine wpAnyH_done (by kernel_rfl) (NoPanic.normal ?_) _
        all_goals
          (try simp only [Act.put, Go.SepYtegdhojhnmgjgaaGreat.p0, Go.SepYtegdhojhnmgjgaaGreat.p1, Go.SepYtegdhojhnmgjgaaGreat.p2])
          have K1 := K.out.drew
          clear K
          have K := Lib.hid K1
          clear K1 a2 l2
          have a2 := K.out.rd 2 rfl; have l2 := K.out.ltp 2 rfl
          have hgd := hW2.out.gd
          have hcf := hW2.out.conf
          have hle := hW2.out.len
          have hok := hW2.out.okn.ok (by omega)
          have BC := fun w' (M : List SA) (h : sat E w' (yardA gy Y :: M)) => Lib.hid (ybusy_calls gy Y hok wv h)
          by_cases hb : Y.busy wv = true
          · rw [hb] at BC
            have ST := Lib.hid (hW2.out.step hn9 (w := wv) ⟨hw0, hw1⟩ (k := ⟨0, 0, 0, 0⟩) rfl (by decide))
            have hAsk : askY Y wv ⟨0, 0, 0, 0⟩ = Y := if_pos hb
            rw [hAsk] at ST
            have SC := fun w' (M : List SA) (h : sat E w' (yardA gy Y :: M)) => Lib.hid (ystep_calls gy Y hok wv (by have := hW2.out.okn.m1; omega) (by have := hW2.out.okn.log; omega) h)
            have hok2 := (YardM.step_okn hW2.out.okn (by omega) wv).ok (by omega)
            obtain ⟨Y2, hY2⟩ : ∃ z, z = (Y.step wv).1 := ⟨_, rfl⟩
            rw [← hY2] at ST SC hok2
            have B2 := fun w' (M : List SA) (h : sat E w' (yardA gy Y2 :: M)) => Lib.hid (ybusy_calls gy Y2 hok2 wv h)
            clear hAsk hY2 hgd hcf
            cases hb2 : Y2.busy wv
            · as_aux_lemma =>
                rw [hb2] at B2
                go_wp2_with (first | (go_at_call 24; (with_reducible refine (BC _ _ (K.out.pick 1 rfl)).out.mono ?_); rintro e w1 ⟨rfl, rfl⟩) | (go_at_call 23; (with_reducible refine ((SC _ _ ((show sat E _ _ from by iterate 6 (try (with_reducible first | exact K.out | apply sat.alloc_any | apply sat.drew | apply sat.drewN))).pick 1 rfl)).out).mono ?_); rintro e w1 ⟨rfl, K1⟩; replace K1 := K1.pick 1 rfl; have K2 := Lib.hid K1; clear K1 K; (try clear a0); (try clear l0); (try clear a1); (try clear l1); (try clear a2); (try clear l2); have K := K2; clear K2; have a2 := K.out.rd 2 rfl; have l2 := K.out.ltp 2 rfl) | (go_at_call 24; (with_reducible refine (B2 _ _ (K.out.pick 1 rfl)).out.mono ?_); rintro e w1 ⟨rfl, rfl⟩) | ((with_reducible refine at_append ?_); refine st_append_new 0 3 1 8 Tryz.underlying58 intInfoW K.out rfl rfl rfl rfl ?_ Nat.one_pos ?_ ?_ ?_; (· simp [Value.oneCell']); (· simp only [maxLen]; omega); (· omega); intro p2 n2 c2 w1 K1; simp only [List.set] at K1; have K2 := Lib.hid K1; clear K1 K; (try clear a0); (try clear l0); (try clear a1); (try clear l1); (try clear a2); (try clear l2); have K := K2; clear K2; have a2 := K.out.rd 2 rfl; have l2 := K.out.ltp 2 rfl))
                go_roundg gk'
                case measure => omega
                case rel => exact ⟨n + 1, x, 0, ends ++ [(n : Int)], p2, c2, Y2, by have := HN.out; omega, by first | (simp; done) | (simp; exact w64 (by omega) (by omega)), rfl, by have := hxn.out; omega, by obtain ⟨q, _⟩ := Go.SepYtegdhojhnmgjgaaGreat.row_len (show sat E _ (rowA (.slice p2 n2 c2) _ _ _ _ :: _) from K.out); subst q; simp, ST.out.1 hb2, by rw [ints_snoc, List.length_append]; obtain ⟨q, _⟩ := Go.SepYtegdhojhnmgjgaaGreat.row_len (show sat E _ (rowA (.slice p2 n2 c2) _ _ _ _ :: _) from K.out); subst q; exact K.out⟩
            · as_aux_lemma =>
                rw [hb2] at B2
                go_wp2_with (first | (go_at_call 24; (with_reducible refine (BC _ _ (K.out.pick 1 rfl)).out.mono ?_); rintro e w1 ⟨rfl, rfl⟩) | (go_at_call 23; (with_reducible refine ((SC _ _ ((show sat E _ _ from by iterate 6 (try (with_reducible first | exact K.out | apply sat.alloc_any | apply sat.drew | apply sat.drewN))).pick 1 rfl)).out).mono ?_); rintro e w1 ⟨rfl, K1⟩; replace K1 := K1.pick 1 rfl; have K2 := Lib.hid K1; clear K1 K; (try clear a0); (try clear l0); (try clear a1); (try clear l1); (try clear a2); (try clear l2); have K := K2; clear K2; have a2 := K.out.rd 2 rfl; have l2 := K.out.ltp 2 rfl) | (go_at_call 24; (with_reducible refine (B2 _ _ (K.out.pick 1 rfl)).out.mono ?_); rintro e w1 ⟨rfl, rfl⟩))
                go_roundg gk'
                case measure => omega
                case rel => exact ⟨n + 1, x, S + 1, ends, p1, k1, Y2, by have := HN.out; omega, by first | (simp; done) | (simp; exact w64 (by omega) (by omega)), rfl, by have := hxn.out; omega, rfl, ST.out.2 hb2, K.out⟩
          · have hb' : Y.busy wv = false := by simpa using hb
            rw [hb'] at BC
            rcases Nat.eq_zero_or_pos asks.length with ha | ha
            · have da : decide ((asks.length : Int) > 0) = false := by rw [decide_eq_false_iff_not]; omega
              have da2 : decide (0 < asks.length) = false := by rw [decide_eq_false_iff_not]; omega
              clear ha
              obtain ⟨am, ham⟩ : ∃ z : AskM, z = ⟨x % 2 == 1, false, 0, 0⟩ := ⟨_, rfl⟩
              have hav : am.wf := by rw [ham]; exact ⟨Int.le_refl _, by show (0 : Int) < _; omega⟩
              have ST := Lib.hid (hW2.out.step hn9 (w := wv) ⟨hw0, hw1⟩ (k := am.call) am.call_right hav)
              have hAsk : askY Y wv am.call = (Y.call wv am.call).1 := if_neg hb
              rw [hAsk] at ST
              have MK := fun w => Lib.hid (show Tells 40 #[.bool (x % 2 == 1), .bool false, .int .u64 0, .int .i64 0] w (callV am.call) from by rw [ham]; exact make_calls _ _ _ _ w)
              have CC := fun w' (M : List SA) (h : sat E w' (yardA gy Y :: M)) => Lib.hid (ycall_calls gy Y hok wv am.call (by have := hW2.out.okn.dl; omega) (by have := hW2.out.okn.m1; omega) h)
              have hokn1 := YardM.call_okn hW2.out.okn wv (k := am.call) hav
              obtain ⟨Y1, hY1⟩ : ∃ z, z = (Y.call wv am.call).1 := ⟨_, rfl⟩
              rw [← hY1] at ST CC hokn1
              have SC := fun w' (M : List SA) (h : sat E w' (yardA gy Y1 :: M)) => Lib.hid (ystep_calls gy Y1 (hokn1.ok (by omega)) wv (by have := hokn1.m1; omega) (by have := hokn1.log; omega) h)
              have hok2 := (YardM.step_okn hokn1 (by omega) wv).ok (by omega)
              obtain ⟨Y2, hY2⟩ : ∃ z, z = (Y1.step wv).1 := ⟨_, rfl⟩
              rw [← hY2] at ST SC hok2
              have B2 := fun w' (M : List SA) (h : sat E w' (yardA gy Y2 :: M)) => Lib.hid (ybusy_calls gy Y2 hok2 wv h)
              clear hAsk hY1 hY2 hokn1 hgd hcf hav
              clear ham
              cases hb2 : Y2.busy wv
              · as_aux_lemma =>
                  rw [hb2] at B2
                  go_wp2_with (first | (go_at_call 24; (with_reducible refine (BC _ _ (K.out.pick 1 rfl)).out.mono ?_); rintro e w1 ⟨rfl, rfl⟩) | (((with_reducible refine at_alloc ?_); refine st_allocf K.out (fun _ => rfl) ?_; intro ga w1 K1; have K2 := Lib.hid K1; clear K1 K; (try clear a0); (try clear l0); (try clear a1); (try clear l1); (try clear a2); (try clear l2); have K := K2; clear K2; have a0 := K.out.rd 0 rfl; have l0 := K.out.ltp 0 rfl; have a3 := K.out.rd 3 rfl; have l3 := K.out.ltp 3 rfl)) | (((with_reducible refine at_store ?_); refine st_store 0 K.out rfl rfl rfl rfl ?_ ?_ ?_ ?_; (· kernel_rfl); (· simp); (· simp [Value.oneCell']); intro w1 K1; simp only [List.set, putL] at K1; have K2 := Lib.hid K1; clear K1 K; (try clear a0); (try clear l0); (try clear a1); (try clear l1); (try clear a2); (try clear l2); have K := K2; clear K2; have a0 := K.out.rd 0 rfl; have l0 := K.out.ltp 0 rfl; have a3 := K.out.rd 3 rfl; have l3 := K.out.ltp 3 rfl)) | (go_at_call 40; (with_reducible refine ((MK _).out).mono ?_); rintro e w1 ⟨rfl, hb⟩; have K1 := sat.grown (by repeat (with_reducible first | exact K.out | apply sat.alloc_any | apply sat.drew | apply sat.drewN)) hb; clear hb; have K2 := Lib.hid K1; clear K1 K; (try clear a0); (try clear l0); (try clear a1); (try clear l1); (try clear a2); (try clear l2); have K := K2; clear K2; have a0 := K.out.rd 0 rfl; have l0 := K.out.ltp 0 rfl; have a3 := K.out.rd 3 rfl; have l3 := K.out.ltp 3 rfl) | (go_at_call 19; (with_reducible refine ((CC _ _ ((show sat E _ _ from by iterate 6 (try (with_reducible first | exact K.out | apply sat.alloc_any | apply sat.drew | apply sat.drewN))).pick 2 rfl)).out).mono ?_); rintro e w1 ⟨rfl, K1⟩; replace K1 := (K1.pick 2 rfl).pick 2 rfl; have K2 := Lib.hid K1; clear K1 K; (try clear a0); (try clear l0); (try clear a1); (try clear l1); (try clear a2); (try clear l2); have K := K2; clear K2; have a0 := K.out.rd 0 rfl; have l0 := K.out.ltp 0 rfl; have a3 := K.out.rd 3 rfl; have l3 := K.out.ltp 3 rfl) | (go_at_call 23; (with_reducible refine ((SC _ _ ((show sat E _ _ from by iterate 6 (try (with_reducible first | exact K.out | apply sat.alloc_any | apply sat.drew | apply sat.drewN))).pick 2 rfl)).out).mono ?_); rintro e w1 ⟨rfl, K1⟩; replace K1 := (K1.pick 2 rfl).pick 2 rfl; have K2 := Lib.hid K1; clear K1 K; (try clear a0); (try clear l0); (try clear a1); (try clear l1); (try clear a2); (try clear l2); have K := K2; clear K2; have a0 := K.out.rd 0 rfl; have l0 := K.out.ltp 0 rfl; have a3 := K.out.rd 3 rfl; have l3 := K.out.ltp 3 rfl) | (go_at_call 24; (with_reducible refine (B2 _ _ (K.out.pick 2 rfl)).out.mono ?_); rintro e w1 ⟨rfl, rfl⟩) | ((with_reducible refine at_append ?_); refine st_append_new 1 3 1 8 Tryz.underlying58 intInfoW K.out rfl rfl rfl rfl ?_ Nat.one_pos ?_ ?_ ?_; (· simp [Value.oneCell']); (· simp only [maxLen]; omega); (· omega); intro p2 n2 c2 w1 K1; simp only [List.set] at K1; have K2 := Lib.hid K1; clear K1 K; (try clear a0); (try clear l0); (try clear a1); (try clear l1); (try clear a2); (try clear l2); have K := K2; clear K2; have a0 := K.out.rd 0 rfl; have l0 := K.out.ltp 0 rfl; have a3 := K.out.rd 3 rfl; have l3 := K.out.ltp 3 rfl))
                  go_roundg gk'
                  case measure => omega
                  case rel => exact ⟨n + 1, x + 1, 0, ends ++ [(n : Int)], p2, c2, Y2, by have := HN.out; omega, by first | (simp; done) | (simp; exact w64 (by omega) (by omega)), rfl, by have := hxn.out; omega, by obtain ⟨q, _⟩ := Go.SepYtegdhojhnmgjgaaGreat.row_len (show sat E _ (rowA (.slice p2 n2 c2) _ _ _ _ :: _) from K.out.drop); subst q; simp, ST.out.1 hb2, by rw [ints_snoc, List.length_append]; obtain ⟨q, _⟩ := Go.SepYtegdhojhnmgjgaaGreat.row_len (show sat E _ (rowA (.slice p2 n2 c2) _ _ _ _ :: _) from K.out.drop); subst q; exact K.out.drop⟩
              · as_aux_lemma =>
                  rw [hb2] at B2
                  go_wp2_with (first | (go_at_call 24; (with_reducible refine (BC _ _ (K.out.pick 1 rfl)).out.mono ?_); rintro e w1 ⟨rfl, rfl⟩) | (((with_reducible refine at_alloc ?_); refine st_allocf K.out (fun _ => rfl) ?_; intro ga w1 K1; have K2 := Lib.hid K1; clear K1 K; (try clear a0); (try clear l0); (try clear a1); (try clear l1); (try clear a2); (try clear l2); have K := K2; clear K2; have a0 := K.out.rd 0 rfl; have l0 := K.out.ltp 0 rfl; have a3 := K.out.rd 3 rfl; have l3 := K.out.ltp 3 rfl)) | (((with_reducible refine at_store ?_); refine st_store 0 K.out rfl rfl rfl rfl ?_ ?_ ?_ ?_; (· kernel_rfl); (· simp); (· simp [Value.oneCell']); intro w1 K1; simp only [List.set, putL] at K1; have K2 := Lib.hid K1; clear K1 K; (try clear a0); (try clear l0); (try clear a1); (try clear l1); (try clear a2); (try clear l2); have K := K2; clear K2; have a0 := K.out.rd 0 rfl; have l0 := K.out.ltp 0 rfl; have a3 := K.out.rd 3 rfl; have l3 := K.out.ltp 3 rfl)) | (go_at_call 40; (with_reducible refine ((MK _).out).mono ?_); rintro e w1 ⟨rfl, hb⟩; have K1 := sat.grown (by repeat (with_reducible first | exact K.out | apply sat.alloc_any | apply sat.drew | apply sat.drewN)) hb; clear hb; have K2 := Lib.hid K1; clear K1 K; (try clear a0); (try clear l0); (try clear a1); (try clear l1); (try clear a2); (try clear l2); have K := K2; clear K2; have a0 := K.out.rd 0 rfl; have l0 := K.out.ltp 0 rfl; have a3 := K.out.rd 3 rfl; have l3 := K.out.ltp 3 rfl) | (go_at_call 19; (with_reducible refine ((CC _ _ ((show sat E _ _ from by iterate 6 (try (with_reducible first | exact K.out | apply sat.alloc_any | apply sat.drew | apply sat.drewN))).pick 2 rfl)).out).mono ?_); rintro e w1 ⟨rfl, K1⟩; replace K1 := (K1.pick 2 rfl).pick 2 rfl; have K2 := Lib.hid K1; clear K1 K; (try clear a0); (try clear l0); (try clear a1); (try clear l1); (try clear a2); (try clear l2); have K := K2; clear K2; have a0 := K.out.rd 0 rfl; have l0 := K.out.ltp 0 rfl; have a3 := K.out.rd 3 rfl; have l3 := K.out.ltp 3 rfl) | (go_at_call 23; (with_reducible refine ((SC _ _ ((show sat E _ _ from by iterate 6 (try (with_reducible first | exact K.out | apply sat.alloc_any | apply sat.drew | apply sat.drewN))).pick 2 rfl)).out).mono ?_); rintro e w1 ⟨rfl, K1⟩; replace K1 := (K1.pick 2 rfl).pick 2 rfl; have K2 := Lib.hid K1; clear K1 K; (try clear a0); (try clear l0); (try clear a1); (try clear l1); (try clear a2); (try clear l2); have K := K2; clear K2; have a0 := K.out.rd 0 rfl; have l0 := K.out.ltp 0 rfl; have a3 := K.out.rd 3 rfl; have l3 := K.out.ltp 3 rfl) | (go_at_call 24; (with_reducible refine (B2 _ _ (K.out.pick 2 rfl)).out.mono ?_); rintro e w1 ⟨rfl, rfl⟩))
                  go_roundg gk'
                  case measure => omega
                  case rel => exact ⟨n + 1, x + 1, S + 1, ends, p1, k1, Y2, by have := HN.out; omega, by first | (simp; done) | (simp; exact w64 (by omega) (by omega)), rfl, by have := hxn.out; omega, rfl, ST.out.2 hb2, K.out.drop⟩
            · have da : decide ((asks.length : Int) > 0) = true := by rw [decide_eq_true_eq]; omega
              have da2 : decide (0 < asks.length) = true := by rw [decide_eq_true_eq]; omega
              have za : ¬ asks = [] := fun h => by rw [h] at ha; simp at ha
              obtain ⟨ja, q1, q2, q3, q4, q5, q6, q7, q8⟩ := idx_at (n := x) hx0 (by omega) ha hal
              obtain ⟨ba, oa, hqa, hba, hxa⟩ := HA.out ja q1
              obtain ⟨am, ham⟩ : ∃ z : AskM, z = asks[ja] := ⟨_, rfl⟩
              have hav : am.wf := by rw [ham]; exact HW.out _ (List.getElem_mem _)
              have HY := Lib.hid (show ∀ w', Below E.heap.size E w' → w'.cell? ⟨ba, oa + ja * 4, none⟩ = some (.bool am.take) ∧ w'.cell? ⟨ba, oa + ja * 4 + 1, none⟩ = some (.bool am.right) ∧ w'.cell? ⟨ba, oa + ja * 4 + 2, none⟩ = some (.int .u64 am.value) ∧ w'.cell? ⟨ba, oa + ja * 4 + 3, none⟩ = some (.int .i64 am.start) from fun w' hbw => by rw [ham]; exact ⟨(hbw.cell (p := ⟨ba, oa + ja * 4, none⟩) hba).trans (hxa 0 _ rfl), (hbw.cell (p := ⟨ba, oa + ja * 4 + 1, none⟩) hba).trans (hxa 1 _ rfl), (hbw.cell (p := ⟨ba, oa + ja * 4 + 2, none⟩) hba).trans (hxa 2 _ rfl), (hbw.cell (p := ⟨ba, oa + ja * 4 + 3, none⟩) hba).trans (hxa 3 _ rfl)⟩)
              clear hxa ham
              subst hqa
              have ST := Lib.hid (hW2.out.step hn9 (w := wv) ⟨hw0, hw1⟩ (k := am.call) am.call_right hav)
              have hAsk : askY Y wv am.call = (Y.call wv am.call).1 := if_neg hb
              rw [hAsk] at ST
              have MK := fun w => Lib.hid (show Tells 40 #[.bool am.take, .bool am.right, .int .u64 am.value, .int .i64 am.start] w (callV am.call) from make_calls _ _ _ _ w)
              have CC := fun w' (M : List SA) (h : sat E w' (yardA gy Y :: M)) => Lib.hid (ycall_calls gy Y hok wv am.call (by have := hW2.out.okn.dl; omega) (by have := hW2.out.okn.m1; omega) h)
              have hokn1 := YardM.call_okn hW2.out.okn wv (k := am.call) hav
              obtain ⟨Y1, hY1⟩ : ∃ z, z = (Y.call wv am.call).1 := ⟨_, rfl⟩
              rw [← hY1] at ST CC hokn1
              have SC := fun w' (M : List SA) (h : sat E w' (yardA gy Y1 :: M)) => Lib.hid (ystep_calls gy Y1 (hokn1.ok (by omega)) wv (by have := hokn1.m1; omega) (by have := hokn1.log; omega) h)
              have hok2 := (YardM.step_okn hokn1 (by omega) wv).ok (by omega)
              obtain ⟨Y2, hY2⟩ : ∃ z, z = (Y1.step wv).1 := ⟨_, rfl⟩
              rw [← hY2] at ST SC hok2
              have B2 := fun w' (M : List SA) (h : sat E w' (yardA gy Y2 :: M)) => Lib.hid (ybusy_calls gy Y2 hok2 wv h)
              clear hAsk hY1 hY2 hokn1 hgd hcf hav
              obtain ⟨y0, y1, y2, y3⟩ := HY.out _ (show sat E _ _ from (by repeat (with_reducible first | exact K.out | apply sat.alloc_any | apply sat.drew | apply sat.drewN))).below
              cases hb2 : Y2.busy wv
              · as_aux_lemma =>
                  rw [hb2] at B2
                  go_wp2_with (first | (go_at_call 24; (with_reducible refine (BC _ _ (K.out.pick 1 rfl)).out.mono ?_); rintro e w1 ⟨rfl, rfl⟩) | (((with_reducible refine at_alloc ?_); refine st_allocf K.out (fun _ => rfl) ?_; intro ga w1 K1; have K2 := Lib.hid K1; clear K1 K; (try clear a0); (try clear l0); (try clear a1); (try clear l1); (try clear a2); (try clear l2); have K := K2; clear K2; have a0 := K.out.rd 0 rfl; have l0 := K.out.ltp 0 rfl; have a3 := K.out.rd 3 rfl; have l3 := K.out.ltp 3 rfl); (try clear y0); (try clear y1); (try clear y2); (try clear y3); obtain ⟨y0, y1, y2, y3⟩ := HY.out _ K.out.below) | (((with_reducible refine at_store ?_); refine st_store 0 K.out rfl rfl rfl rfl ?_ ?_ ?_ ?_; (· kernel_rfl); (· simp); (· simp [Value.oneCell']); intro w1 K1; simp only [List.set, putL] at K1; have K2 := Lib.hid K1; clear K1 K; (try clear a0); (try clear l0); (try clear a1); (try clear l1); (try clear a2); (try clear l2); have K := K2; clear K2; have a0 := K.out.rd 0 rfl; have l0 := K.out.ltp 0 rfl; have a3 := K.out.rd 3 rfl; have l3 := K.out.ltp 3 rfl); (try clear y0); (try clear y1); (try clear y2); (try clear y3); obtain ⟨y0, y1, y2, y3⟩ := HY.out _ K.out.below) | (go_at_call 40; (with_reducible refine ((MK _).out).mono ?_); rintro e w1 ⟨rfl, hb⟩; have K1 := sat.grown (by repeat (with_reducible first | exact K.out | apply sat.alloc_any | apply sat.drew | apply sat.drewN)) hb; clear hb; have K2 := Lib.hid K1; clear K1 K; (try clear a0); (try clear l0); (try clear a1); (try clear l1); (try clear a2); (try clear l2); have K := K2; clear K2; have a0 := K.out.rd 0 rfl; have l0 := K.out.ltp 0 rfl; have a3 := K.out.rd 3 rfl; have l3 := K.out.ltp 3 rfl) | (go_at_call 19; (with_reducible refine ((CC _ _ ((show sat E _ _ from by iterate 6 (try (with_reducible first | exact K.out | apply sat.alloc_any | apply sat.drew | apply sat.drewN))).pick 2 rfl)).out).mono ?_); rintro e w1 ⟨rfl, K1⟩; replace K1 := (K1.pick 2 rfl).pick 2 rfl; have K2 := Lib.hid K1; clear K1 K; (try clear a0); (try clear l0); (try clear a1); (try clear l1); (try clear a2); (try clear l2); have K := K2; clear K2; have a0 := K.out.rd 0 rfl; have l0 := K.out.ltp 0 rfl; have a3 := K.out.rd 3 rfl; have l3 := K.out.ltp 3 rfl) | (go_at_call 23; (with_reducible refine ((SC _ _ ((show sat E _ _ from by iterate 6 (try (with_reducible first | exact K.out | apply sat.alloc_any | apply sat.drew | apply sat.drewN))).pick 2 rfl)).out).mono ?_); rintro e w1 ⟨rfl, K1⟩; replace K1 := (K1.pick 2 rfl).pick 2 rfl; have K2 := Lib.hid K1; clear K1 K; (try clear a0); (try clear l0); (try clear a1); (try clear l1); (try clear a2); (try clear l2); have K := K2; clear K2; have a0 := K.out.rd 0 rfl; have l0 := K.out.ltp 0 rfl; have a3 := K.out.rd 3 rfl; have l3 := K.out.ltp 3 rfl) | (go_at_call 24; (with_reducible refine (B2 _ _ (K.out.pick 2 rfl)).out.mono ?_); rintro e w1 ⟨rfl, rfl⟩) | ((with_reducible refine at_append ?_); refine st_append_new 1 3 1 8 Tryz.underlying58 intInfoW K.out rfl rfl rfl rfl ?_ Nat.one_pos ?_ ?_ ?_; (· simp [Value.oneCell']); (· simp only [maxLen]; omega); (· omega); intro p2 n2 c2 w1 K1; simp only [List.set] at K1; have K2 := Lib.hid K1; clear K1 K; (try clear a0); (try clear l0); (try clear a1); (try clear l1); (try clear a2); (try clear l2); have K := K2; clear K2; have a0 := K.out.rd 0 rfl; have l0 := K.out.ltp 0 rfl; have a3 := K.out.rd 3 rfl; have l3 := K.out.ltp 3 rfl))
                  go_roundg gk'
                  case measure => omega
                  case rel => exact ⟨n + 1, x + 1, 0, ends ++ [(n : Int)], p2, c2, Y2, by have := HN.out; omega, by first | (simp; done) | (simp; exact w64 (by omega) (by omega)), rfl, by have := hxn.out; omega, by obtain ⟨q, _⟩ := Go.SepYtegdhojhnmgjgaaGreat.row_len (show sat E _ (rowA (.slice p2 n2 c2) _ _ _ _ :: _) from K.out.drop); subst q; simp, ST.out.1 hb2, by rw [ints_snoc, List.length_append]; obtain ⟨q, _⟩ := Go.SepYtegdhojhnmgjgaaGreat.row_len (show sat E _ (rowA (.slice p2 n2 c2) _ _ _ _ :: _) from K.out.drop); subst q; exact K.out.drop⟩
              · as_aux_lemma =>
                  rw [hb2] at B2
                  go_wp2_with (first | (go_at_call 24; (with_reducible refine (BC _ _ (K.out.pick 1 rfl)).out.mono ?_); rintro e w1 ⟨rfl, rfl⟩) | (((with_reducible refine at_alloc ?_); refine st_allocf K.out (fun _ => rfl) ?_; intro ga w1 K1; have K2 := Lib.hid K1; clear K1 K; (try clear a0); (try clear l0); (try clear a1); (try clear l1); (try clear a2); (try clear l2); have K := K2; clear K2; have a0 := K.out.rd 0 rfl; have l0 := K.out.ltp 0 rfl; have a3 := K.out.rd 3 rfl; have l3 := K.out.ltp 3 rfl); (try clear y0); (try clear y1); (try clear y2); (try clear y3); obtain ⟨y0, y1, y2, y3⟩ := HY.out _ K.out.below) | (((with_reducible refine at_store ?_); refine st_store 0 K.out rfl rfl rfl rfl ?_ ?_ ?_ ?_; (· kernel_rfl); (· simp); (· simp [Value.oneCell']); intro w1 K1; simp only [List.set, putL] at K1; have K2 := Lib.hid K1; clear K1 K; (try clear a0); (try clear l0); (try clear a1); (try clear l1); (try clear a2); (try clear l2); have K := K2; clear K2; have a0 := K.out.rd 0 rfl; have l0 := K.out.ltp 0 rfl; have a3 := K.out.rd 3 rfl; have l3 := K.out.ltp 3 rfl); (try clear y0); (try clear y1); (try clear y2); (try clear y3); obtain ⟨y0, y1, y2, y3⟩ := HY.out _ K.out.below) | (go_at_call 40; (with_reducible refine ((MK _).out).mono ?_); rintro e w1 ⟨rfl, hb⟩; have K1 := sat.grown (by repeat (with_reducible first | exact K.out | apply sat.alloc_any | apply sat.drew | apply sat.drewN)) hb; clear hb; have K2 := Lib.hid K1; clear K1 K; (try clear a0); (try clear l0); (try clear a1); (try clear l1); (try clear a2); (try clear l2); have K := K2; clear K2; have a0 := K.out.rd 0 rfl; have l0 := K.out.ltp 0 rfl; have a3 := K.out.rd 3 rfl; have l3 := K.out.ltp 3 rfl) | (go_at_call 19; (with_reducible refine ((CC _ _ ((show sat E _ _ from by iterate 6 (try (with_reducible first | exact K.out | apply sat.alloc_any | apply sat.drew | apply sat.drewN))).pick 2 rfl)).out).mono ?_); rintro e w1 ⟨rfl, K1⟩; replace K1 := (K1.pick 2 rfl).pick 2 rfl; have K2 := Lib.hid K1; clear K1 K; (try clear a0); (try clear l0); (try clear a1); (try clear l1); (try clear a2); (try clear l2); have K := K2; clear K2; have a0 := K.out.rd 0 rfl; have l0 := K.out.ltp 0 rfl; have a3 := K.out.rd 3 rfl; have l3 := K.out.ltp 3 rfl) | (go_at_call 23; (with_reducible refine ((SC _ _ ((show sat E _ _ from by iterate 6 (try (with_reducible first | exact K.out | apply sat.alloc_any | apply sat.drew | apply sat.drewN))).pick 2 rfl)).out).mono ?_); rintro e w1 ⟨rfl, K1⟩; replace K1 := (K1.pick 2 rfl).pick 2 rfl; have K2 := Lib.hid K1; clear K1 K; (try clear a0); (try clear l0); (try clear a1); (try clear l1); (try clear a2); (try clear l2); have K := K2; clear K2; have a0 := K.out.rd 0 rfl; have l0 := K.out.ltp 0 rfl; have a3 := K.out.rd 3 rfl; have l3 := K.out.ltp 3 rfl) | (go_at_call 24; (with_reducible refine (B2 _ _ (K.out.pick 2 rfl)).out.mono ?_); rintro e w1 ⟨rfl, rfl⟩))
                  go_roundg gk'
                  case measure => omega
                  case rel => exact ⟨n + 1, x + 1, S + 1, ends, p1, k1, Y2, by have := HN.out; omega, by first | (simp; done) | (simp; exact w64 (by omega) (by omega)), rfl, by have := hxn.out; omega, rfl, ST.out.2 hb2, K.out.drop⟩
    · have d0 : decide (n < 900) = false := by simpa using hlt
      have d1 : decide ((n : Int) < 900) = false := by simp; omega
      obtain rfl : n = 900 := by omega
      have hl := hW.last
      have he := hW.each
      have hle := hW.len
      clear hn hlt
      go_wp2_with fail
      go_ret2
      exact ⟨gy, p1, k1, ends, Y, rfl, hl, he, hle, ((K.out.pick 2 rfl).drop)⟩
end
end Go.Proofs.YtegdhojhnmgjgaaGreat
