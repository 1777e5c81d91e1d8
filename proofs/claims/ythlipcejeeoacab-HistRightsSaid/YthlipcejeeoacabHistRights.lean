/- HistRights: whether calls may have been done so, and which are over. -/
import Derived.Test.YthlipcejeeoacabOver
import Derived.Test.YthlipcejeeoacabLRight
namespace Go.Proofs.Ythlipcejeeoacab
open Go.RowKit Go.SepYthlipcejeeoacab Go.Maps
set_option linter.unusedSimpArgs false
set_option linter.unusedVariables false
set_option maxRecDepth 100000
set_option maxHeartbeats 4000000
theorem neqD (d : DeedM) (w : World) : (binOp .neq 35 (deedV d) (deedV d)).run Try.prog w = .ok (.bool false) w := by
  generalize d.who = a1
  generalize d.call.kind = a2
  generalize d.call.fin = a3
  generalize d.call.value = a4
  generalize d.call.start = a5
  generalize d.start = a6
  generalize d.stop = a7
  generalize d.reply.ok = a8
  generalize d.reply.value = a9
  generalize d.reply.stamp.lo = a10
  generalize d.reply.stamp.hi = a11
  go_simp
attribute [local go_sem] neqD
theorem filt_at (l : List DeedM) (n : Nat) (hn : n < l.length) (ho : overD l[n] = true) : (l.filter overD)[((l.take n).filter overD).length]? = some l[n] ∧ ((l.take (n + 1)).filter overD).length = ((l.take n).filter overD).length + 1 := by
  constructor
  · have e : l.filter overD = (l.take n).filter overD ++ (l[n] :: (l.drop (n + 1)).filter overD) := by
      conv => lhs; rw [← List.take_append_drop n l, List.drop_eq_getElem_cons hn, List.filter_append, List.filter_cons_of_pos ho]
    rw [e, List.getElem?_append_right (Nat.le_refl _), Nat.sub_self]
    rfl
  · rw [List.take_succ_eq_append_getElem hn, List.filter_append, List.length_append]
    simp [ho]
theorem filt_no (l : List DeedM) (n : Nat) (hn : n < l.length) (ho : overD l[n] = false) : ((l.take (n + 1)).filter overD).length = ((l.take n).filter overD).length := by
  rw [List.take_succ_eq_append_getElem hn, List.filter_append, List.length_append]
  simp [ho]
theorem rights_calls (W : World) (p : Option Addr) (l : List DeedM) (cap : Nat) (hcap : l.length ≤ cap) (hwf : ∀ e ∈ l, DeedM.wf e) (h : OldD W p l) :
    Calls Try.prog 3 #[.slice p l.length cap] W fun e W' => e = .returned (.bool true) ∧ Below W.heap.size W W' := by
  have K := Lib.hid (sat.start W)
  have HD := fun w => Lib.hid (head14_calls w)
  by_cases h60 : l.length > 60
  · have t1 : decide ((l.length : Int) > 60) = true := by simp; omega
    clear h60 h hwf
    go_enter Try.func3, Try.ntmps3
    go_wp2_with (first | (go_at_call 5; (with_reducible refine ((HD _).out).mono ?_); rintro e w1 ⟨rfl, hb⟩; have K1 := sat.grown (by repeat (with_reducible first | exact K.out | apply sat.alloc_any | apply sat.drew | apply sat.drewN)) hb; clear hb; have K2 := Lib.hid K1; clear K1 K; (try clear a0); (try clear l0); (try clear a1); (try clear l1); (try clear a2); (try clear l2); have K := K2; clear K2))
    go_ret
    exact ⟨rfl, K.out.below⟩
  have t1 : decide ((l.length : Int) > 60) = false := by simp; omega
  have n60 : l.length ≤ 60 := by omega
  clear h60
  have OV := Lib.hid (fun (w : World) (b : Below W.heap.size W w) => over_calls p l cap w (by omega) (h.grown b))
  have R1 := Lib.hid (fun (w : World) (b : Below W.heap.size W w) => right_calls p l cap w (by omega) hwf (h.grown b))
  have R2 := Lib.hid (fun (w : World) (b : Below W.heap.size W w) => lright_calls p l cap w (by omega) hcap hwf (h.grown b))
  have HO := Lib.hid h
  have HE := Lib.hid (show rightM [] l = lrightM [] l from right_eq l [] Inv.nil)
  clear h hwf
  go_enter Try.func3, Try.ntmps3
  go_wp2_with (first | (go_at_call 5; (with_reducible refine ((HD _).out).mono ?_); rintro e w1 ⟨rfl, hb⟩; have K1 := sat.grown (by repeat (with_reducible first | exact K.out | apply sat.alloc_any | apply sat.drew | apply sat.drewN)) hb; clear hb; have K2 := Lib.hid K1; clear K1 K; (try clear a0); (try clear l0); (try clear a1); (try clear l1); (try clear a2); (try clear l2); have K := K2; clear K2) | (go_at_call 6; (with_reducible refine ((OV.out _ (RowKit.Hid.out K).below)).mono ?_); rintro e wE ⟨r, p2, c2, rfl, hr, ho, hb⟩; have HB := Lib.hid (sat.grown K.out hb).below; have HR := Lib.hid ho; have HF := Lib.hid hr; clear ho hr hb K OV; have H := Lib.hid (HO.out.grown HB.out); have K := Lib.hid (sat.start wE)))
  have hr60 : r.length ≤ 60 := by rw [HF.out]; have := List.length_filter_le overD l; omega
  go_loopg [16, 4] l.length (fun gk i m w' => ∃ n : Nat, n + gk = l.length ∧ i = .int .i64 n ∧ m = .int .i64 (((l.take n).filter overD).length : Nat) ∧ Below wE.heap.size wE w')
  case atStart => exact ⟨0, by simp, rfl, rfl, Below.refl _ _⟩
  case round =>
    obtain ⟨n, hn, rfl, rfl, hb⟩ := hrel
    have K1 : sat wE wr [] := sat.nil hb
    clear K hb
    have K := Lib.hid K1
    clear K1
    by_cases hlt : n < l.length
    · have d0 : decide (n < l.length) = true := by simpa using hlt
      obtain ⟨b, off, rfl, hb0, hx0⟩ := H.out n hlt; have hx : ∀ i u, (DeedM.v l[n])[i]? = some u → wr.cell? ⟨b, off + n * 11 + i, none⟩ = some u := fun i u hi => (K.out.below.cell (p := ⟨b, off + n * 11 + i, none⟩) hb0).trans (hx0 i u hi); have y0 : wr.cell? ⟨b, off + n * 11, none⟩ = _ := hx 0 _ rfl; have y1 := hx 1 _ rfl; have y2 := hx 2 _ rfl; have y3 := hx 3 _ rfl; have y4 := hx 4 _ rfl; have y5 := hx 5 _ rfl; have y6 := hx 6 _ rfl; have y7 := hx 7 _ rfl; have y8 := hx 8 _ rfl; have y9 := hx 9 _ rfl; have y10 := hx 10 _ rfl; clear hx hx0 hb0
      have HN := Lib.hid hn
      have FA := Lib.hid (filt_at l n hlt)
      have FN := Lib.hid (filt_no l n hlt)
      clear hn
      generalize hk : ((l.take n).filter overD).length = k at *
      have hk60 : k ≤ 60 := by rw [← hk]; have := List.length_filter_le overD (l.take n); rw [List.length_take] at this; omega
      clear hk
      generalize l[n] = d at *
      rw [← HF.out] at FA
      obtain ⟨gk', rfl⟩ : ∃ g', gk = g' + 1 := ⟨gk - 1, by have := HN.out; omega⟩
      by_cases q : d.stop < 0
      · have t0 : decide (d.stop < 0) = true := by simpa using q
        have E1 := Lib.hid (FN.out (by simp [overD]; omega))
        clear q
        go_wp2_with (first | ((with_reducible refine at_alloc ?_); refine st_allocf K.out (fun _ => rfl) ?_; intro gd w1 K1; have K2 := Lib.hid K1; clear K1 K; (try clear a0); (try clear l0); (try clear a1); (try clear l1); (try clear a2); (try clear l2); have K := K2; clear K2; have a0 := K.out.rd 0 rfl; have l0 := K.out.ltp 0 rfl) | ((with_reducible refine at_store ?_); refine st_store 0 K.out rfl rfl rfl rfl ?_ ?_ ?_ ?_; (· kernel_rfl); (· simp); (· simp [Value.oneCell']); intro w1 K1; simp only [List.set, putL] at K1; have K2 := Lib.hid K1; clear K1 K; (try clear a0); (try clear l0); (try clear a1); (try clear l1); (try clear a2); (try clear l2); have K := K2; clear K2; have a0 := K.out.rd 0 rfl; have l0 := K.out.ltp 0 rfl))
        go_roundg gk'
        case measure => omega
        case rel => exact ⟨n + 1, by have := HN.out; omega, by simp, by rw [E1.out], K.out.below⟩
      · have t0 : decide (d.stop < 0) = false := by simpa using q
        obtain ⟨fa, fb⟩ := FA.out (by simp [overD]; omega)
        have E1 := Lib.hid fb
        clear q fb FA FN
        have hkr : k < r.length := by
          rcases Nat.lt_or_ge k r.length with h' | h'
          · exact h'
          · rw [List.getElem?_eq_none h'] at fa; cases fa
        have hrk : r[k] = d := by
          rw [List.getElem?_eq_getElem hkr] at fa
          injection fa
        clear fa
        obtain ⟨b2, o2, rfl, hb0, hx0⟩ := HR.out k hkr
        rw [hrk] at hx0
        clear hrk
        have HX := Lib.hid (And.intro hb0 hx0)
        have SX := Lib.hid (fun (w' : World) (hb : Below wE.heap.size wE w') (i : Nat) (u : Value) (hi : (DeedM.v d)[i]? = some u) => (hb.cell (p := ⟨b2, o2 + k * 11 + i, none⟩) HX.out.1).trans (HX.out.2 i u hi))
        clear hb0 hx0
        have k0 : (0 : Int) ≤ (k : Int) := by omega
        have k1 : (k : Int) < (r.length : Int) := by omega
        have k4 : decide (r.length ≤ k) = false := by simp; omega
        have k2 : decide ((k : Int) ≥ (r.length : Int)) = false := by simp; omega
        have k3 : decide ((r.length : Int) ≤ (k : Int)) = false := by simp; omega
        go_wp2_with (first | ((with_reducible refine at_alloc ?_); refine st_allocf K.out (fun _ => rfl) ?_; intro gd w1 K1; have K2 := Lib.hid K1; clear K1 K; (try clear a0); (try clear l0); (try clear a1); (try clear l1); (try clear a2); (try clear l2); have K := K2; clear K2; have a0 := K.out.rd 0 rfl; have l0 := K.out.ltp 0 rfl) | ((with_reducible refine at_store ?_); refine st_store 0 K.out rfl rfl rfl rfl ?_ ?_ ?_ ?_; (· kernel_rfl); (· simp); (· simp [Value.oneCell']); intro w1 K1; simp only [List.set, putL] at K1; have K2 := Lib.hid K1; clear K1 K; (try clear a0); (try clear l0); (try clear a1); (try clear l1); (try clear a2); (try clear l2); have K := K2; clear K2; have a0 := K.out.rd 0 rfl; have l0 := K.out.ltp 0 rfl))
        refine wp_region_noPanic ?_
        refine wp_region_held_drew (S := (fun w' => (∀ i, w'.cell? ⟨gd, i, none⟩ = d.v[i]?) ∧ w'.cell? ⟨b2, o2 + k * 11, none⟩ = some (.int .i64 d.who) ∧ w'.cell? ⟨b2, o2 + k * 11 + 1, none⟩ = some (.int .i64 d.call.kind) ∧ w'.cell? ⟨b2, o2 + k * 11 + 2, none⟩ = some (.int .i64 d.call.fin) ∧ w'.cell? ⟨b2, o2 + k * 11 + 3, none⟩ = some (.int .u64 d.call.value) ∧ w'.cell? ⟨b2, o2 + k * 11 + 4, none⟩ = some (.int .i64 d.call.start) ∧ w'.cell? ⟨b2, o2 + k * 11 + 5, none⟩ = some (.int .i64 d.start) ∧ w'.cell? ⟨b2, o2 + k * 11 + 6, none⟩ = some (.int .i64 d.stop) ∧ w'.cell? ⟨b2, o2 + k * 11 + 7, none⟩ = some (.bool d.reply.ok) ∧ w'.cell? ⟨b2, o2 + k * 11 + 8, none⟩ = some (.int .u64 d.reply.value) ∧ w'.cell? ⟨b2, o2 + k * 11 + 9, none⟩ = some (.int .i64 d.reply.stamp.lo) ∧ w'.cell? ⟨b2, o2 + k * 11 + 10, none⟩ = some (.int .i64 d.reply.stamp.hi))) (by kernel_rfl) ?_ (fun hHeld => ?_)
        · ((try dsimp only); (first | exact ⟨K.out.rd 0 rfl, SX.out _ K.out.below 0 _ rfl, SX.out _ K.out.below 1 _ rfl, SX.out _ K.out.below 2 _ rfl, SX.out _ K.out.below 3 _ rfl, SX.out _ K.out.below 4 _ rfl, SX.out _ K.out.below 5 _ rfl, SX.out _ K.out.below 6 _ rfl, SX.out _ K.out.below 7 _ rfl, SX.out _ K.out.below 8 _ rfl, SX.out _ K.out.below 9 _ rfl, SX.out _ K.out.below 10 _ rfl⟩ | exact ⟨K.out.drew.rd 0 rfl, SX.out _ K.out.drew.below 0 _ rfl, SX.out _ K.out.drew.below 1 _ rfl, SX.out _ K.out.drew.below 2 _ rfl, SX.out _ K.out.drew.below 3 _ rfl, SX.out _ K.out.drew.below 4 _ rfl, SX.out _ K.out.drew.below 5 _ rfl, SX.out _ K.out.drew.below 6 _ rfl, SX.out _ K.out.drew.below 7 _ rfl, SX.out _ K.out.drew.below 8 _ rfl, SX.out _ K.out.drew.below 9 _ rfl, SX.out _ K.out.drew.below 10 _ rfl⟩))
        refine tk 0 (some 23) ?_
        (try simp only [Act.put, p0, p1, p2])
        refine tk 1 (some 24) ?_
        (try simp only [Act.put, p0, p1, p2])
        refine tk 2 (some 25) ?_
        (try simp only [Act.put, p0, p1, p2])
        refine tk 3 (some 26) ?_
        (try simp only [Act.put, p0, p1, p2])
        refine tk 4 (some 27) ?_
        (try simp only [Act.put, p0, p1, p2])
        refine tk 5 (some 28) ?_
        (try simp only [Act.put, p0, p1, p2])
        refine tk 6 (some 29) ?_
        (try simp only [Act.put, p0, p1, p2])
        refine tk 7 (some 30) ?_
        (try simp only [Act.put, p0, p1, p2])
        refine tk 8 (some 31) ?_
        (try simp only [Act.put, p0, p1, p2])
        refine tk 9 (some 32) ?_
        (try simp only [Act.put, p0, p1, p2])
        refine tk 10 (some 33) ?_
        (try simp only [Act.put, p0, p1, p2])
        refine tk 11 (some 34) ?_
        (try simp only [Act.put, p0, p1, p2])
        refine wpAnyH_done (by kernel_rfl) (NoPanic.normal ?_) _
        go_wp2
        go_roundg gk'
        case measure => omega
        case rel => exact ⟨n + 1, by have := HN.out; omega, by simp, by rw [E1.out]; simp, (show sat wE _ _ from by first | exact K.out | exact K.out.drew).below⟩
    · have hnl : n = l.length := by omega
      subst hnl
      have d0 : decide (l.length < l.length) = false := by simp
      rw [List.take_length, ← HF.out]
      have HB2 := Lib.hid (fun (w' : World) (hb : Below wE.heap.size wE w') => HB.out.trans (hb.mono HB.out.size))
      rw [HE.out] at R1
      generalize lrightM [] l = b at *
      go_wp2_with (first | (go_at_call 7; (with_reducible refine ((R1.out _ (HB2.out _ (RowKit.Hid.out K).below))).mono ?_); rintro r_ w2 ⟨rfl, hb⟩; have K1 := sat.grown K.out hb; clear hb; have K2 := Lib.hid K1; clear K1 K; (try clear a0); (try clear l0); (try clear a1); (try clear l1); (try clear a2); (try clear l2); have K := K2; clear K2) | (go_at_call 8; (with_reducible refine ((R2.out _ (HB2.out _ (RowKit.Hid.out K).below))).mono ?_); rintro r_ w2 ⟨rfl, hb⟩; have K1 := sat.grown K.out hb; clear hb; have K2 := Lib.hid K1; clear K1 K; (try clear a0); (try clear l0); (try clear a1); (try clear l1); (try clear a2); (try clear l2); have K := K2; clear K2))
      go_ret
      exact ⟨ret_b (by simp), HB2.out _ K.out.below⟩
theorem histRights_calls (W : World) (p : Option Addr) (len cap : Nat) (rows : List (List Value)) (hr : RowsAt W deedK p len cap rows) :
    Calls Try.prog 3 #[.slice p len cap] W fun e W' => e = .returned (.bool true) ∧ Below W.heap.size W W' := by
  obtain ⟨l, rfl, hwf, ho⟩ := oldD_of hr
  exact rights_calls W p l cap hr.le hwf ho
end Go.Proofs.Ythlipcejeeoacab
