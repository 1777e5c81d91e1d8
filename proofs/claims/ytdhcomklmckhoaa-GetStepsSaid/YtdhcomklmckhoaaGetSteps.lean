/- Whatever is turned between the steps: its steps are those of a snap and of a take, cell by cell, again and again (GetSteps answers true at every input). No condition beyond the row's own. -/
import Derived.Test.YtdhcomklmckhoaaGetStarts
import Derived.Test.YtdhcomklmckhoaaTaskR
namespace Go.Proofs.Ytdhcomklmckhoaa
open Go.RowKit Go.SepYtdhcomklmckhoaa
set_option linter.unusedSimpArgs false
set_option linter.unusedVariables false
set_option maxRecDepth 100000
set_option maxHeartbeats 40000000
structure TurnM where
  at_ : Int
  slot : Int
  x : ThingM
abbrev TurnM.v (t : TurnM) : List Value := [.int .i64 t.at_, .int .i64 t.slot, .int .i64 t.x.state, .int .i64 t.x.gen, .int .i64 t.x.at_, .int .i64 t.x.wide, .bool t.x.right, .int .u64 t.x.value]
def turnK : List FK := [.int .i64, .int .i64, .int .i64, .int .i64, .int .i64, .int .i64, .bool, .int .u64]
theorem turn_row (r : List Value) (h : okAll turnK r) : ∃ t : TurnM, r = t.v ∧ t.x.wf := by
  unfold turnK at h
  obtain ⟨m0, u0, rfl, _, j0⟩ := okAll_int h
  obtain ⟨m1, u1, rfl, _, j1⟩ := okAll_int j0
  obtain ⟨n0, v0, rfl, h0, k0⟩ := okAll_int j1
  obtain ⟨n1, v1, rfl, h1, k1⟩ := okAll_int k0
  obtain ⟨n2, v2, rfl, h2, k2⟩ := okAll_int k1
  obtain ⟨n3, v3, rfl, h3, k3⟩ := okAll_int k2
  obtain ⟨n4, v4, rfl, k4⟩ := okAll_bool k3
  obtain ⟨n5, v5, rfl, h5, k5⟩ := okAll_int k4
  obtain rfl := okAll_nil k5
  exact ⟨⟨m0, m1, ⟨n0, n1, n2, n3, n4, n5⟩⟩, rfl, lit_u64 h5⟩
theorem oldN_of {W : World} {a : Option Addr} {len cap : Nat} {rows : List (List Value)} (h : RowsAt W turnK a len cap rows) :
    ∃ l : List TurnM, l.length = len ∧ (∀ e ∈ l, e.x.wf) ∧ OldS TurnM.v 8 W a l :=
  oldS_of TurnM.v (fun t => t.x.wf) h turn_row (fun v => ⟨_, rfl⟩)
def tslot (c : ConfM) (t : TurnM) : Int := t.slot % 65536 % c.all
def turn1 (c : ConfM) (m : MemM) (t : TurnM) : MemM := (m.touch (-1) 1 (tslot c t) 0 t.x.word.pack).touch (-1) 1 (c.value (tslot c t)) 0 t.x.value
def turnI (c : ConfM) (i : Int) (m : MemM) (t : TurnM) : MemM := if t.at_ = i then turn1 c m t else m
def turnsM (c : ConfM) (i : Int) (ts : List TurnM) (m : MemM) : MemM := ts.foldl (turnI c i) m
def gsM (c : ConfM) (ts : List TurnM) (g : GetM) (m : MemM) : Nat → GetM × MemM
  | 0 => (g, m)
  | i + 1 => (gsM c ts g m i).1.step (turnsM c i ts (gsM c ts g m i).2)
theorem turnI_ok (c : ConfM) (i : Int) {m : MemM} (hm : m.wf) {t : TurnM} (ht : t.x.wf) : (turnI c i m t).wf ∧ (turnI c i m t).log.length ≤ m.log.length + 2 := by
  unfold turnI
  split
  · unfold turn1
    have hv : 0 ≤ t.x.value ∧ t.x.value < 18446744073709551616 := ht
    have l1 := MemM.touch_log m (-1) 1 (tslot c t) 0 t.x.word.pack
    have l2 := MemM.touch_log (m.touch (-1) 1 (tslot c t) 0 t.x.word.pack) (-1) 1 (c.value (tslot c t)) 0 t.x.value
    exact ⟨MemM.touch_wf (MemM.touch_wf hm _ _ _ _ _ (pack_bd _)) _ _ _ _ _ hv, by omega⟩
  · exact ⟨hm, by omega⟩
theorem turnsM_ok (c : ConfM) (i : Int) : ∀ (ts : List TurnM) {m : MemM} (hm : m.wf) (ht : ∀ t ∈ ts, t.x.wf), (turnsM c i ts m).wf ∧ (turnsM c i ts m).log.length ≤ m.log.length + 2 * ts.length
  | [], m, hm, _ => ⟨hm, by show m.log.length ≤ _; omega⟩
  | t :: ts, m, hm, ht => by
    have a := turnI_ok c i hm (ht t (by simp))
    have b := turnsM_ok c i ts (m := turnI c i m t) a.1 (fun u hu => ht u (by simp [hu]))
    refine ⟨b.1, ?_⟩
    have b2 := b.2
    show (turnsM c i ts (turnI c i m t)).log.length ≤ m.log.length + 2 * (ts.length + 1)
    omega
theorem turnsM_take (c : ConfM) (i : Int) (ts : List TurnM) (m : MemM) (n : Nat) (hn : n < ts.length) : turnsM c i (ts.take (n + 1)) m = turnI c i (turnsM c i (ts.take n) m) ts[n] := by
  unfold turnsM
  rw [List.take_succ_eq_append_getElem hn, List.foldl_append]
  rfl
structure GsOk (c : ConfM) (who fin st : Int) (L0 : Nat) (i : Nat) (r : GetM × MemM) : Prop where
  okn : r.1.okn i
  conf : r.1.conf = c
  who : r.1.who = who
  fin : r.1.fin = fin
  start : r.1.start = st
  wf : r.2.wf
  log : r.2.log.length ≤ L0
theorem gs_ok {c : ConfM} (hc : c.ok) {who fin st : Int} (w0 : 0 ≤ who) (w1 : who < c.th) {ts : List TurnM} (hts : ∀ t ∈ ts, t.x.wf) (h40 : ts.length ≤ 40) {m : MemM} (hm : m.wf) : ∀ i : Nat, i ≤ 100000 → GsOk c who fin st (m.log.length + i * 81) i (gsM c ts (GetM.new c who fin st) m i)
  | 0, _ => ⟨GetM.new_okn hc w0 w1 fin st, rfl, rfl, rfl, rfl, hm, by show m.log.length ≤ _; omega⟩
  | i + 1, hi => by
    have a := gs_ok hc (fin := fin) (st := st) w0 w1 hts h40 hm i (by omega)
    have b := turnsM_ok c (i : Int) ts a.wf hts
    have k := GetM.step_kept (m := turnsM c i ts (gsM c ts (GetM.new c who fin st) m i).2) a.okn (by omega) (by omega) b.1
    have n := GetM.step_near a.okn.ok (turnsM c i ts (gsM c ts (GetM.new c who fin st) m i).2)
    have n1 := n.log
    have b2 := b.2
    have al := a.log
    exact ⟨by rw [show (((i + 1 : Nat) : Int)) = (i : Int) + 1 by omega]; exact k.okn, k.conf.trans a.conf, k.who.trans a.who, k.fin.trans a.fin, k.start.trans a.start, n.wf b.1, by show ((gsM c ts (GetM.new c who fin st) m i).1.step (turnsM c i ts (gsM c ts (GetM.new c who fin st) m i).2)).2.log.length ≤ _; omega⟩
abbrev confG (g : Nat) (c : ConfM) : SA := pt g (.cells #[.int .i64 c.th, .int .i64 c.sl, .int .i64 c.src, .int .i64 c.dl] 28 (0, 0))
abbrev turnP (g : Nat) (t : TurnM) : SA := pt g (.cells #[.int .i64 t.at_, .int .i64 t.slot, .int .i64 t.x.state, .int .i64 t.x.gen, .int .i64 t.x.at_, .int .i64 t.x.wide, .bool t.x.right, .int .u64 t.x.value] 66 (0, 0))
theorem rowG_call {E w : World} {L : List SA} {g : Nat} {l : List Int} (hn : l.length ≤ 5000) (hw : wfs l) (h : sat E w (u64A g l :: L)) :
    Calls Try.prog 11 #[.slice (some ⟨g, 0, none⟩) l.length l.length] w fun e w' => ∃ p1 c1, e = .returned (.slice p1 (orderM l).length c1) ∧ sat E w' (rowA (.slice p1 (orderM l).length c1) 3 1 (orderM l).length ((orderM l).map (Value.int .i64)) :: u64A g l :: L) := by
  refine (row_calls l (some ⟨g, 0, none⟩) l.length w (oldU_pt h) hw (by omega)).mono ?_
  rintro e w' ⟨v, rfl, K⟩
  obtain ⟨p1, c1, rfl⟩ := Go.SepYtdhcomklmckhoaa.row_any K
  exact ⟨p1, c1, rfl, h.join K⟩
theorem oldS_evG {E w : World} {L : List SA} {p : Option Addr} {n c t : Nat} {l : List Ev} (h : sat E w (rowA (.slice p n c) t 6 l.length (evCells l) :: L)) : OldS Ev.cells 6 w p l := oldS_row ev_sz h
abbrev evValG (e : Ev) : Value := .agg #[.int .i64 e.who, .int .i64 e.op, .int .i64 e.cell, .int .u64 e.old, .int .u64 e.new, .bool e.ok]
theorem neqEG (e : Ev) (w : World) : (binOp .neq 74 (evValG e) (evValG e)).run Try.prog w = .ok (.bool false) w := by
  generalize e.who = a1
  generalize e.op = a2
  generalize e.cell = a3
  generalize e.old = a4
  generalize e.new = a5
  generalize e.ok = a6
  go_simp
attribute [local go_sem] neqEG
theorem getSteps_main (t s who st : Int) (right : Bool) (p : Option Addr) (l : List ThingM) (cap : Nat) (q : Option Addr) (ts : List TurnM) (cap2 : Nat) (E : World) (hwf : ∀ x ∈ l, x.wf) (ho : OldS ThingM.v 6 E p l) (hts : ∀ x ∈ ts, x.x.wf) (ho2 : OldS TurnM.v 8 E q ts) :
    Calls Try.prog 5 #[.int .i64 t, .int .i64 s, .int .i64 who, .int .i64 st, .bool right, .slice p l.length cap, .slice q ts.length cap2] E fun e w' => e = .returned (.bool true) ∧ Below E.heap.size E w' := by
  have K := Lib.hid (sat.start E)
  have HD := fun w => Lib.hid (head11_calls w)
  by_cases h64 : (l.length : Int) > 64
  · have c0 : decide ((l.length : Int) > 64) = true := by simpa using h64
    go_enter Try.func5, Try.ntmps5
    go_wp2_with (first | (go_at_call 7; (with_reducible refine ((HD _).out).mono ?_); rintro e w1 ⟨rfl, hb⟩; have K1 := sat.grown (by repeat (with_reducible first | exact K.out | apply sat.alloc_any | apply sat.drew | apply sat.drewN)) hb; clear hb; have K2 := Lib.hid K1; clear K1 K; (try clear a0); (try clear l0); (try clear a1); (try clear l1); (try clear a2); (try clear l2); have K := K2; clear K2))
    go_ret
    exact ⟨rfl, K.out.below⟩
  · have c0 : decide ((l.length : Int) > 64) = false := by simpa using h64
    by_cases h40 : (ts.length : Int) > 40
    · have c1 : decide ((ts.length : Int) > 40) = true := by simpa using h40
      go_enter Try.func5, Try.ntmps5
      go_wp2_with (first | (go_at_call 7; (with_reducible refine ((HD _).out).mono ?_); rintro e w1 ⟨rfl, hb⟩; have K1 := sat.grown (by repeat (with_reducible first | exact K.out | apply sat.alloc_any | apply sat.drew | apply sat.drewN)) hb; clear hb; have K2 := Lib.hid K1; clear K1 K; (try clear a0); (try clear l0); (try clear a1); (try clear l1); (try clear a2); (try clear l2); have K := K2; clear K2))
      go_ret
      exact ⟨rfl, K.out.below⟩
    · have c1 : decide ((ts.length : Int) > 40) = false := by simpa using h40
      have CF := fun w => Lib.hid (conf_calls t s 0 0 w)
      have hc := confS_ok t s 0 0
      have hsm := confS_small t s 0 0
      generalize confS t s 0 0 = c at *
      have H := Lib.hid ho2
      have HC := Lib.hid hc
      have HTS := Lib.hid hts
      have CE := fun w' (M : List SA) (h : sat E w' M) => Lib.hid (cells_calls c hc p l cap (by omega) hwf ho h)
      have hw := cellsM_wf (c := c) hwf (min c.all.toNat l.length)
      rw [show cellsN c l (min c.all.toNat l.length) = cellsM c l from rfl] at hw
      have hlog : (cellsM c l).log.length ≤ 200 := by have := cellsN_log c l (min c.all.toNat l.length); unfold cellsM; omega
      have h16 : 1 ≤ c.all ∧ c.all ≤ 16 := by
        have h1 := hc.all_bd
        unfold ConfM.all at h1 ⊢
        have := Int.mul_le_mul hsm.1 hsm.2.1 (by have := hc.sl1; omega) (by decide)
        omega
      have ea1 := and16 who
      obtain ⟨wh0, wh1⟩ := whoS_bd hc who
      have ea2 : Int.tmod (who % 65536) c.th = whoS c who := by unfold whoS; rw [Int.tmod_eq_emod_of_nonneg (by omega)]
      have z1 : (c.th == 0) = false := by have := hc.th1; simp; omega
      have z2 : ¬ c.th = 0 := by have := hc.th1; omega
      have z3 : IntKind.i64.wrap (whoS c who) = whoS c who := wi (by have := hc.th2; omega) (by have := hc.th2; omega)
      have GN := fun w' (M : List SA) (h : sat E w' M) => Lib.hid (getnew_calls c hc (whoS c who) (endM right) st h)
      have SN := fun w' (M : List SA) (h : sat E w' M) => Lib.hid (snapnew_calls c hc (whoS c who) st h)
      have EN := fun w => Lib.hid (end_calls right w)
      have AL := fun w => Lib.hid (all_calls c w hc)
      have GO := Lib.hid (gs_ok hc (fin := endM right) (st := st) wh0 wh1 hts (by omega) hw)
      have Z0 : gsM c ts (GetM.new c (whoS c who) (endM right) st) (cellsM c l) 0 = (GetM.new c (whoS c who) (endM right) st, cellsM c l) := rfl
      have ZS := Lib.hid (show ∀ i : Nat, gsM c ts (GetM.new c (whoS c who) (endM right) st) (cellsM c l) (i + 1) = (gsM c ts (GetM.new c (whoS c who) (endM right) st) (cellsM c l) i).1.step (turnsM c i ts (gsM c ts (GetM.new c (whoS c who) (endM right) st) (cellsM c l) i).2) from fun i => rfl)
      obtain ⟨ten, ht10⟩ : ∃ x, x = 10 * c.all := ⟨_, rfl⟩
      obtain ⟨NN, hNN⟩ : ∃ x, x = ten + 40 := ⟨_, rfl⟩
      have hNb : 50 ≤ NN ∧ NN ≤ 200 := by omega
      have HWH := Lib.hid (And.intro wh0 wh1)
      have hts40 : ts.length ≤ 40 := by omega
      have HNE := Lib.hid (And.intro ht10 hNN)
      clear ho ho2 hwf hw hts wh0 wh1 hsm hc ht10 hNN h64 h40
      have S0 : SnapM.new c (whoS c who) st = (GetM.new c (whoS c who) (endM right) st).snap := rfl
      rw [S0] at SN
      clear S0
      generalize hg0 : GetM.new c (whoS c who) (endM right) st = g0 at *
      have HG0 := Lib.hid hg0
      clear hg0
      generalize whoS c who = wh at *
      generalize cellsM c l = m0 at *
      generalize hSS : gsM c ts g0 m0 = S at *
      clear hSS
      go_enter Try.func5, Try.ntmps5
      go_wp2_with (first | (go_at_call 7; (with_reducible refine ((HD _).out).mono ?_); rintro e w1 ⟨rfl, hb⟩; have K1 := sat.grown (by repeat (with_reducible first | exact K.out | apply sat.alloc_any | apply sat.drew | apply sat.drewN)) hb; clear hb; have K2 := Lib.hid K1; clear K1 K; (try clear a0); (try clear l0); (try clear a1); (try clear l1); (try clear a2); (try clear l2); have K := K2; clear K2) | (go_at_call 8; (with_reducible refine ((CF _).out).mono ?_); rintro e w1 ⟨rfl, hb⟩; have K1 := sat.grown (by repeat (with_reducible first | exact K.out | apply sat.alloc_any | apply sat.drew | apply sat.drewN)) hb; clear hb; have K2 := Lib.hid K1; clear K1 K; (try clear a0); (try clear l0); (try clear a1); (try clear l1); (try clear a2); (try clear l2); have K := K2; clear K2))
      have K1 := K.out.alloc (.cells #[.int .i64 c.th, .int .i64 c.sl, .int .i64 c.src, .int .i64 c.dl] 28)
      obtain ⟨gc, hgc⟩ : ∃ g, g = w1.heap.size := ⟨_, rfl⟩
      rw [← hgc] at K1 ⊢
      clear K hgc
      have K := Lib.hid K1
      clear K1
      have a0 := K.out.rd 0 rfl; have l0 := K.out.ltp 0 rfl
      go_wp2_with (first | ((fail_if_success (have _h := hM1)); (go_at_call 10; (with_reducible refine ((CE _ _ (show sat E _ _ from by iterate 6 (try (with_reducible first | exact K.out | apply sat.alloc_any | apply sat.drew | apply sat.drewN)))).out).mono ?_); rintro e w1 ⟨gm, rfl, K1⟩; have K2 := Lib.hid K1; clear K1 K; (try clear a0); (try clear l0); (try clear a1); (try clear l1); (try clear a2); (try clear l2); have K := K2; clear K2; have a1 := K.out.rd 1 rfl; have l1 := K.out.ltp 1 rfl); have hM1 := True.intro) | (go_at_call 10; (with_reducible refine ((CE _ _ (show sat E _ _ from by iterate 6 (try (with_reducible first | exact K.out | apply sat.alloc_any | apply sat.drew | apply sat.drewN)))).out).mono ?_); rintro e w1 ⟨gn, rfl, K1⟩; have K2 := Lib.hid K1; clear K1 K; (try clear a0); (try clear l0); (try clear a1); (try clear l1); (try clear a2); (try clear l2); have K := K2; clear K2; have a2 := K.out.rd 2 rfl; have l2 := K.out.ltp 2 rfl))
      refine wp_region_noPanic ?_
      refine wp_region_held_drew (S := (fun w' => (∀ j, w'.cell? ⟨gc, j, none⟩ = ([.int .i64 c.th, .int .i64 c.sl, .int .i64 c.src, .int .i64 c.dl] : List Value)[j]?))) (by kernel_rfl) ?_ (fun hHeld => ?_)
      · ((try dsimp only); (first | exact sat.rd 2 (by repeat (with_reducible first | exact K.out | apply sat.alloc_any | apply sat.drew | apply sat.drewN)) rfl | exact sat.rd 3 (by repeat (with_reducible first | exact K.out | apply sat.alloc_any | apply sat.drew | apply sat.drewN)) rfl))
      refine tk 0 (some 59) ?_
      (try simp only [Act.put, p0, p1, p2])
      refine tk 1 (some 60) ?_
      (try simp only [Act.put, p0, p1, p2])
      refine tk 2 (some 61) ?_
      (try simp only [Act.put, p0, p1, p2])
      refine tk 4 (some 63) ?_
      (try simp only [Act.put, p0, p1, p2])
      refine wpAnyH_ready (rs := [3]) (by kernel_rfl) (by simp) ?_
      refine AllReadyH.cons (o := _) rfl (fun kC hkC => ?_) AllReadyH.nil
      go_simp
      (first | (go_at_call 17; (with_reducible refine ((EN _).out).mono ?_); rintro e w1 ⟨rfl, hb⟩; have K1 := sat.grown (show sat _ _ _ from by first | exact K.out | exact K.out.drew) hb; clear hb; have K2 := Lib.hid K1; clear K1 K; (try clear a0); (try clear l0); (try clear f0); (try clear a1); (try clear l1); (try clear f1); (try clear a2); (try clear l2); (try clear f2); (try clear a3); (try clear l3); (try clear f3); (try clear a4); (try clear l4); (try clear f4); (try clear a5); (try clear l5); (try clear f5); have K := K2; clear K2; (try have a0 := K.out.rd 0 rfl); (try have l0 := K.out.ltp 0 rfl); (try have f0 := K.out.fr 0 rfl); (try have a1 := K.out.rd 1 rfl); (try have l1 := K.out.ltp 1 rfl); (try have f1 := K.out.fr 1 rfl); (try have a2 := K.out.rd 2 rfl); (try have l2 := K.out.ltp 2 rfl); (try have f2 := K.out.fr 2 rfl); (try have a3 := K.out.rd 3 rfl); (try have l3 := K.out.ltp 3 rfl); (try have f3 := K.out.fr 3 rfl)) | (go_at_call 16; (with_reducible refine ((GN _ _ (show sat E _ _ from by first | exact K.out | exact K.out.drew)).out).mono ?_); rintro e w1 ⟨gg, rfl, K1⟩; have K2 := Lib.hid K1; clear K1 K; (try clear a0); (try clear l0); (try clear f0); (try clear a1); (try clear l1); (try clear f1); (try clear a2); (try clear l2); (try clear f2); (try clear a3); (try clear l3); (try clear f3); (try clear a4); (try clear l4); (try clear f4); (try clear a5); (try clear l5); (try clear f5); have K := K2; clear K2; (try have a0 := K.out.rd 0 rfl); (try have l0 := K.out.ltp 0 rfl); (try have f0 := K.out.fr 0 rfl); (try have a1 := K.out.rd 1 rfl); (try have l1 := K.out.ltp 1 rfl); (try have f1 := K.out.fr 1 rfl); (try have a2 := K.out.rd 2 rfl); (try have l2 := K.out.ltp 2 rfl); (try have f2 := K.out.fr 2 rfl); (try have a3 := K.out.rd 3 rfl); (try have l3 := K.out.ltp 3 rfl); (try have f3 := K.out.fr 3 rfl)))
      refine shown hkC _ _ (by (try dsimp only); (first | exact sat.rd 2 (by repeat (with_reducible first | exact K.out | apply sat.alloc_any | apply sat.drew | apply sat.drewN)) rfl | exact sat.rd 3 (by repeat (with_reducible first | exact K.out | apply sat.alloc_any | apply sat.drew | apply sat.drewN)) rfl)) ?_; clear hkC kC hHeld; intro hHeld
      (try simp only [Act.put, p0, p1, p2])
      refine wpAnyH_ready (rs := [5]) (by kernel_rfl) (by simp) ?_
      refine AllReadyH.cons (o := _) rfl (fun kC hkC => ?_) AllReadyH.nil
      go_simp
      (first | (go_at_call 17; (with_reducible refine ((EN _).out).mono ?_); rintro e w1 ⟨rfl, hb⟩; have K1 := sat.grown (show sat _ _ _ from by first | exact K.out | exact K.out.drew) hb; clear hb; have K2 := Lib.hid K1; clear K1 K; (try clear a0); (try clear l0); (try clear f0); (try clear a1); (try clear l1); (try clear f1); (try clear a2); (try clear l2); (try clear f2); (try clear a3); (try clear l3); (try clear f3); (try clear a4); (try clear l4); (try clear f4); (try clear a5); (try clear l5); (try clear f5); have K := K2; clear K2; (try have a0 := K.out.rd 0 rfl); (try have l0 := K.out.ltp 0 rfl); (try have f0 := K.out.fr 0 rfl); (try have a1 := K.out.rd 1 rfl); (try have l1 := K.out.ltp 1 rfl); (try have f1 := K.out.fr 1 rfl); (try have a2 := K.out.rd 2 rfl); (try have l2 := K.out.ltp 2 rfl); (try have f2 := K.out.fr 2 rfl); (try have a3 := K.out.rd 3 rfl); (try have l3 := K.out.ltp 3 rfl); (try have f3 := K.out.fr 3 rfl)) | (go_at_call 16; (with_reducible refine ((GN _ _ (show sat E _ _ from by first | exact K.out | exact K.out.drew)).out).mono ?_); rintro e w1 ⟨gg, rfl, K1⟩; have K2 := Lib.hid K1; clear K1 K; (try clear a0); (try clear l0); (try clear f0); (try clear a1); (try clear l1); (try clear f1); (try clear a2); (try clear l2); (try clear f2); (try clear a3); (try clear l3); (try clear f3); (try clear a4); (try clear l4); (try clear f4); (try clear a5); (try clear l5); (try clear f5); have K := K2; clear K2; (try have a0 := K.out.rd 0 rfl); (try have l0 := K.out.ltp 0 rfl); (try have f0 := K.out.fr 0 rfl); (try have a1 := K.out.rd 1 rfl); (try have l1 := K.out.ltp 1 rfl); (try have f1 := K.out.fr 1 rfl); (try have a2 := K.out.rd 2 rfl); (try have l2 := K.out.ltp 2 rfl); (try have f2 := K.out.fr 2 rfl); (try have a3 := K.out.rd 3 rfl); (try have l3 := K.out.ltp 3 rfl); (try have f3 := K.out.fr 3 rfl)))
      refine shown hkC _ _ (by (try dsimp only); (first | exact sat.rd 2 (by repeat (with_reducible first | exact K.out | apply sat.alloc_any | apply sat.drew | apply sat.drewN)) rfl | exact sat.rd 3 (by repeat (with_reducible first | exact K.out | apply sat.alloc_any | apply sat.drew | apply sat.drewN)) rfl)) ?_; clear hkC kC hHeld; intro hHeld
      (try simp only [Act.put, p0, p1, p2])
      refine tk 6 (some 18) ?_
      (try simp only [Act.put, p0, p1, p2])
      refine wpAnyH_done (by kernel_rfl) (NoPanic.normal ?_) _
      clear hHeld
      go_wp2_with ((go_at_call 28; (with_reducible refine ((SN _ _ (show sat E _ _ from by iterate 6 (try (with_reducible first | exact K.out | apply sat.alloc_any | apply sat.drew | apply sat.drewN)))).out).mono ?_); rintro e w1 ⟨ga0, rfl, K1⟩; have K2 := Lib.hid K1; clear K1 K; (try clear a0); (try clear l0); (try clear a1); (try clear l1); (try clear a2); (try clear l2); have K := K2; clear K2; have a4 := K.out.rd 4 rfl; have l4 := K.out.ltp 4 rfl))
      have K1 : sat E w1 [getA gg (S 0).1, memA gm (S 0).2, memA gn (S 0).2, snapA ga0 (S 0).1.snap, takeO (.pointer none) (S 0).1.take, confG gc c] := by
        rw [Z0, show g0.take = none by rw [← HG0.out]; rfl]
        exact ((((takeO_mk K.out).pick 1 rfl).pick 3 rfl).pick 4 rfl).pick 4 rfl
      clear K
      have K := Lib.hid K1
      clear K1 a4 l4
      have hS0 := GO.out 0 (by omega)
      have hp0 : (S 0).1.phase = 0 ∧ (S 0).1.tries = 0 ∧ (S 0).1.value = 0 := by rw [Z0, ← HG0.out]; exact ⟨rfl, rfl, rfl⟩
      have hNe := HNE
      go_loopg [24, 19, 20, 21, 22, 23] NN.toNat (fun GG i a b ph tr va w' => ∃ (j : Nat) (ga : Nat) (tv : Value), j + GG = NN.toNat ∧ i = .int .i64 j ∧ a = .pointer (some ⟨ga, 0, none⟩) ∧ tv = b ∧ ph = .int .i64 (S j).1.phase ∧ tr = .int .i64 (S j).1.tries ∧ va = .int .u64 (S j).1.value ∧ sat E w' [getA gg (S j).1, memA gm (S j).2, memA gn (S j).2, snapA ga (S j).1.snap, takeO tv (S j).1.take, confG gc c])
      case atStart => exact ⟨0, ga0, _, by simp, rfl, rfl, rfl, by rw [hp0.1], by rw [hp0.2.1], by rw [hp0.2.2], K.out⟩
      case round =>
        obtain ⟨j, ga, tv, hj, rfl, rfl, rfl, rfl, rfl, rfl, hs⟩ := hrel
        clear K
        have K := Lib.hid hs
        clear hs
        have a5 := K.out.rd 5 rfl
        have l5 := K.out.ltp 5 rfl
        have HJ := Lib.hid hj
        by_cases hltj : (j : Int) < NN
        · have d0 : decide ((j : Int) < 10 * c.all + 40) = true := by have := HNE.out; simp; omega
          have hjN : j < 200 := by omega
          have hok := GO.out j (by omega)
          have HOK := Lib.hid hok
          have hml := hok.log
          obtain ⟨mj, hmj⟩ : ∃ x, x = (S j).2 := ⟨_, rfl⟩
          have HMJ := Lib.hid hmj
          have K1 : sat E wr [getA gg (S j).1, memA gm (turnsM c j (ts.take 0) mj), memA gn (turnsM c j (ts.take 0) mj), snapA ga (S j).1.snap, takeO tv (S j).1.take, confG gc c] := by rw [hmj]; exact K.out
          clear K hmj
          have K := Lib.hid K1
          clear K1
          obtain ⟨gk', rfl⟩ : ∃ g', gk = g' + 1 := ⟨gk - 1, by omega⟩
          clear hj
          go_wp2_with ((go_at_call 9; (with_reducible refine ((AL _).out).mono ?_); rintro e w1 ⟨rfl, hb⟩; have K1 := sat.grown (by repeat (with_reducible first | exact K.out | apply sat.alloc_any | apply sat.drew | apply sat.drewN)) hb; clear hb; have K2 := Lib.hid K1; clear K1 K; (try clear a0); (try clear l0); (try clear a1); (try clear l1); (try clear a2); (try clear l2); have K := K2; clear K2; have a5 := K.out.rd 5 rfl; have l5 := K.out.ltp 5 rfl))
          go_loopg [79] ts.length (fun GG i w' => ∃ n : Nat, n + GG = ts.length ∧ i = .int .i64 n ∧ sat E w' [getA gg (S j).1, memA gm (turnsM c j (ts.take n) mj), memA gn (turnsM c j (ts.take n) mj), snapA ga (S j).1.snap, takeO tv (S j).1.take, confG gc c])
          case atStart => exact ⟨0, by simp, rfl, K.out⟩
          case round =>
            obtain ⟨n, hn, rfl, hs⟩ := hrel
            clear K
            have K := Lib.hid hs
            clear hs
            (try clear a5 l5)
            have a5 := K.out.rd 5 rfl
            have l5 := K.out.ltp 5 rfl
            have HN := Lib.hid hn
            by_cases hlt : n < ts.length
            · have d1 : decide (n < ts.length) = true := by simpa using hlt
              obtain ⟨b, off, rfl, hb0, hx0⟩ := H.out n hlt; have hx : ∀ i u, (TurnM.v ts[n])[i]? = some u → wr.cell? ⟨b, off + n * 8 + i, none⟩ = some u := fun i u hi => (K.out.below.cell (p := ⟨b, off + n * 8 + i, none⟩) hb0).trans (hx0 i u hi); have y0 : wr.cell? ⟨b, off + n * 8, none⟩ = _ := hx 0 _ rfl; have y1 := hx 1 _ rfl; have y2 := hx 2 _ rfl; have y3 := hx 3 _ rfl; have y4 := hx 4 _ rfl; have y5 := hx 5 _ rfl; have y6 := hx 6 _ rfl; have y7 := hx 7 _ rfl; clear hx hx0 hb0
              have hTk := turnsM_take c j ts mj n hlt
              have htn := HTS.out ts[n] (List.getElem_mem _)
              have hmw := (turnsM_ok c j (ts.take n) (m := mj) (by rw [HMJ.out]; exact HOK.out.wf) (fun t ht => HTS.out t (List.mem_of_mem_take ht)))
              have hmlg : (turnsM c j (ts.take n) mj).log.length ≤ 100000 := by
                have h1 := hmw.2
                have h2 := HOK.out.log
                rw [← HMJ.out] at h2
                have h3 : (ts.take n).length ≤ 40 := by rw [List.length_take]; omega
                omega
              obtain ⟨gk2, rfl⟩ : ∃ g', gk = g' + 1 := ⟨gk - 1, by omega⟩
              have hn41 : n < 41 := by omega
              clear hn
              generalize ts[n] = T at *
              by_cases hq : T.at_ = (j : Int)
              · as_aux_lemma =>
                have e0 : (T.at_ == (j : Int)) = true := by simpa using hq
                rw [show turnI c (j : Int) (turnsM c j (ts.take n) mj) T = turn1 c (turnsM c j (ts.take n) mj) T from if_pos hq] at hTk
                have HTK := Lib.hid hTk
                clear hTk hq hmw
                have hal := HC.out.all_bd
                have e16 := and16 T.slot
                have tm : Int.tmod (T.slot % 65536) c.all = tslot c T := by unfold tslot; rw [Int.tmod_eq_emod_of_nonneg (by omega)]
                have ts0 : 0 ≤ tslot c T := by unfold tslot; exact Int.emod_nonneg _ (by omega)
                have ts1 : tslot c T < c.all := by unfold tslot; exact Int.emod_lt_of_pos _ (by omega)
                have za : (c.all == 0) = false := by simp; omega
                have zb : ¬ c.all = 0 := by omega
                have wt : IntKind.i64.wrap (tslot c T) = tslot c T := wi (by omega) (by omega)
                have WD := fun w => Lib.hid (word_calls c w (tslot c T))
                have VD := fun w => Lib.hid (value_calls c w HC.out (tslot c T) ts0 ts1)
                have TW := fun w => Lib.hid (tword_calls T.x w)
                have PKc := fun w => Lib.hid (pack_calls T.x.word w)
                have hv : 0 ≤ T.x.value ∧ T.x.value < 18446744073709551616 := htn
                have SC1 := fun b w' (M : List SA) (h : sat E w' (memA b (turnsM c j (ts.take n) mj) :: M)) => Lib.hid (store_calls b (turnsM c j (ts.take n) mj) (-1) (tslot c T) T.x.word.pack (pack_bd _) (by omega) h)
                have SC2 := fun b w' (M : List SA) (h : sat E w' (memA b ((turnsM c j (ts.take n) mj).touch (-1) 1 (tslot c T) 0 T.x.word.pack) :: M)) => Lib.hid (store_calls b ((turnsM c j (ts.take n) mj).touch (-1) 1 (tslot c T) 0 T.x.word.pack) (-1) (c.value (tslot c T)) T.x.value hv (by have := MemM.touch_log (turnsM c j (ts.take n) mj) (-1) 1 (tslot c T) 0 T.x.word.pack; omega) h)
                rw [show turn1 c (turnsM c j (ts.take n) mj) T = ((turnsM c j (ts.take n) mj).touch (-1) 1 (tslot c T) 0 T.x.word.pack).touch (-1) 1 (c.value (tslot c T)) 0 T.x.value from rfl] at HTK
                generalize turnsM c j (ts.take n) mj = mt at *
                generalize hm1 : mt.touch (-1) 1 (tslot c T) 0 T.x.word.pack = m1 at *
                generalize hm2 : m1.touch (-1) 1 (c.value (tslot c T)) 0 T.x.value = m2 at *
                clear hm1 hm2 hmlg htn hv
                generalize tslot c T = sl at *
                go_wp2_with fail
                have K1 := K.out.alloc (.cells #[.int .i64 T.at_, .int .i64 T.slot, .int .i64 T.x.state, .int .i64 T.x.gen, .int .i64 T.x.at_, .int .i64 T.x.wide, .bool T.x.right, .int .u64 T.x.value] 66)
                obtain ⟨gT, hgT⟩ : ∃ g, g = wr.heap.size := ⟨_, rfl⟩
                rw [← hgT] at K1 ⊢
                clear K hgT a5 l5 y0 y1 y2 y3 y4 y5 y6 y7
                have K := Lib.hid K1
                clear K1
                refine wp_region_noPanic ?_
                refine wp_region_held_drew (S := (fun w' => (∀ q, w'.cell? ⟨gT, q, none⟩ = (TurnM.v T)[q]?) ∧ (∀ q, w'.cell? ⟨gc, q, none⟩ = ([.int .i64 c.th, .int .i64 c.sl, .int .i64 c.src, .int .i64 c.dl] : List Value)[q]?))) (by kernel_rfl) ?_ (fun hHeld => ?_)
                · ((try dsimp only); (exact ⟨sat.rd 0 (by repeat (with_reducible first | exact K.out | apply sat.alloc_any | apply sat.drew | apply sat.drewN)) rfl, sat.rd 6 (by repeat (with_reducible first | exact K.out | apply sat.alloc_any | apply sat.drew | apply sat.drewN)) rfl⟩))
                refine tk 0 (some 87) ?_
                (try simp only [Act.put, p0, p1, p2])
                refine tk 1 (some 88) ?_
                (try simp only [Act.put, p0, p1, p2])
                refine tk 2 (some 89) ?_
                (try simp only [Act.put, p0, p1, p2])
                refine tk 3 (some 90) ?_
                (try simp only [Act.put, p0, p1, p2])
                refine wpAnyH_ready (rs := [4]) (by kernel_rfl) (by simp) ?_
                refine AllReadyH.cons (o := _) rfl (fun kC hkC => ?_) AllReadyH.nil
                go_simp
                (go_at_call 9; (with_reducible refine ((AL _).out).mono ?_); rintro e w1 ⟨rfl, hb⟩; have K1 := sat.grown (show sat _ _ _ from by first | exact K.out | exact K.out.drew) hb; clear hb; have K2 := Lib.hid K1; clear K1 K; (try clear a0); (try clear l0); (try clear f0); (try clear a1); (try clear l1); (try clear f1); (try clear a2); (try clear l2); (try clear f2); (try clear a3); (try clear l3); (try clear f3); (try clear a4); (try clear l4); (try clear f4); (try clear a5); (try clear l5); (try clear f5); have K := K2; clear K2; (try have a0 := K.out.rd 0 rfl); (try have l0 := K.out.ltp 0 rfl); (try have f0 := K.out.fr 0 rfl); (try have a1 := K.out.rd 1 rfl); (try have l1 := K.out.ltp 1 rfl); (try have f1 := K.out.fr 1 rfl); (try have a2 := K.out.rd 2 rfl); (try have l2 := K.out.ltp 2 rfl); (try have f2 := K.out.fr 2 rfl); (try have a3 := K.out.rd 3 rfl); (try have l3 := K.out.ltp 3 rfl); (try have f3 := K.out.fr 3 rfl))
                refine shown hkC _ _ (by (try dsimp only); (exact ⟨sat.rd 0 (by repeat (with_reducible first | exact K.out | apply sat.alloc_any | apply sat.drew | apply sat.drewN)) rfl, sat.rd 6 (by repeat (with_reducible first | exact K.out | apply sat.alloc_any | apply sat.drew | apply sat.drewN)) rfl⟩)) ?_; clear hkC kC hHeld; intro hHeld
                (try simp only [Act.put, p0, p1, p2])
                refine tk 5 (some 92) ?_
                (try simp only [Act.put, p0, p1, p2])
                refine tk 6 (some 27) ?_
                (try simp only [Act.put, p0, p1, p2])
                refine wpAnyH_done (by kernel_rfl) (NoPanic.normal ?_) _
                clear hHeld
                go_wp2_with fail
                have K1 := (show sat E w1 _ from K.out).alloc (.cells #[.pointer (some ⟨gm, 0, none⟩), .pointer (some ⟨gn, 0, none⟩)] 34)
                obtain ⟨gs, hgs⟩ : ∃ g, g = w1.heap.size := ⟨_, rfl⟩
                rw [← hgs] at K1 ⊢
                clear K hgs
                have K := Lib.hid K1
                clear K1
                go_loopg [97] 2 (fun GG i w' => ∃ r : Nat, r + GG = 2 ∧ i = .int .i64 r ∧ sat E w' [pt gs (.cells #[.pointer (some ⟨gm, 0, none⟩), .pointer (some ⟨gn, 0, none⟩)] 34 (0, 0)), turnP gT T, getA gg (S j).1, memA gm (if 1 ≤ r then m2 else mt), memA gn (if 2 ≤ r then m2 else mt), snapA ga (S j).1.snap, takeO tv (S j).1.take, confG gc c])
                case atStart => exact ⟨0, by simp, rfl, K.out⟩
                case round =>
                  obtain ⟨r, hr, rfl, hs⟩ := hrel
                  clear K
                  have K := Lib.hid hs
                  clear hs
                  (try clear a0 l0 a1 l1 a6 l6 f0 f1 f6)
                  obtain rfl | rfl | rfl : r = 0 ∨ r = 1 ∨ r = 2 := by omega
                  · obtain ⟨gk3, rfl⟩ : ∃ g', gk = g' + 1 := ⟨gk - 1, by omega⟩
                    have a0 := K.out.rd 0 rfl
                    have l0 := K.out.ltp 0 rfl
                    go_wp2_with fail
                    refine wp_region_noPanic ?_
                    refine wp_region_held_drew (S := (fun w' => (∀ q, w'.cell? ⟨gT, q, none⟩ = (TurnM.v T)[q]?) ∧ (∀ q, w'.cell? ⟨gc, q, none⟩ = ([.int .i64 c.th, .int .i64 c.sl, .int .i64 c.src, .int .i64 c.dl] : List Value)[q]?))) (by kernel_rfl) ?_ (fun hHeld => ?_)
                    · ((try dsimp only); (exact ⟨sat.rd 1 (by repeat (with_reducible first | exact K.out | apply sat.alloc_any | apply sat.drew | apply sat.drewN)) rfl, sat.rd 7 (by repeat (with_reducible first | exact K.out | apply sat.alloc_any | apply sat.drew | apply sat.drewN)) rfl⟩))
                    refine tk 0 (some 101) ?_
                    (try simp only [Act.put, p0, p1, p2])
                    refine tk 1 (some 102) ?_
                    (try simp only [Act.put, p0, p1, p2])
                    refine tk 2 (some 103) ?_
                    (try simp only [Act.put, p0, p1, p2])
                    refine tk 4 (some 105) ?_
                    (try simp only [Act.put, p0, p1, p2])
                    refine tk 5 (some 106) ?_
                    (try simp only [Act.put, p0, p1, p2])
                    refine wpAnyH_ready (rs := [3]) (by kernel_rfl) (by simp) ?_
                    refine AllReadyH.cons (o := _) rfl (fun kC hkC => ?_) AllReadyH.nil
                    go_simp
                    (first | (go_at_call 23; (with_reducible refine ((WD _).out).mono ?_); rintro e w1 ⟨rfl, hb⟩; have K1 := sat.grown (show sat _ _ _ from by first | exact K.out | exact K.out.drew) hb; clear hb; have K2 := Lib.hid K1; clear K1 K; (try clear a0); (try clear l0); (try clear f0); (try clear a1); (try clear l1); (try clear f1); (try clear a2); (try clear l2); (try clear f2); (try clear a3); (try clear l3); (try clear f3); (try clear a4); (try clear l4); (try clear f4); (try clear a5); (try clear l5); (try clear f5); have K := K2; clear K2; (try have a0 := K.out.rd 0 rfl); (try have l0 := K.out.ltp 0 rfl); (try have f0 := K.out.fr 0 rfl); (try have a1 := K.out.rd 1 rfl); (try have l1 := K.out.ltp 1 rfl); (try have f1 := K.out.fr 1 rfl); (try have a2 := K.out.rd 2 rfl); (try have l2 := K.out.ltp 2 rfl); (try have f2 := K.out.fr 2 rfl); (try have a3 := K.out.rd 3 rfl); (try have l3 := K.out.ltp 3 rfl); (try have f3 := K.out.fr 3 rfl)) | (go_at_call 29; (with_reducible refine ((TW _).out).mono ?_); rintro e w1 ⟨rfl, hb⟩; have K1 := sat.grown (show sat _ _ _ from by first | exact K.out | exact K.out.drew) hb; clear hb; have K2 := Lib.hid K1; clear K1 K; (try clear a0); (try clear l0); (try clear f0); (try clear a1); (try clear l1); (try clear f1); (try clear a2); (try clear l2); (try clear f2); (try clear a3); (try clear l3); (try clear f3); (try clear a4); (try clear l4); (try clear f4); (try clear a5); (try clear l5); (try clear f5); have K := K2; clear K2; (try have a0 := K.out.rd 0 rfl); (try have l0 := K.out.ltp 0 rfl); (try have f0 := K.out.fr 0 rfl); (try have a1 := K.out.rd 1 rfl); (try have l1 := K.out.ltp 1 rfl); (try have f1 := K.out.fr 1 rfl); (try have a2 := K.out.rd 2 rfl); (try have l2 := K.out.ltp 2 rfl); (try have f2 := K.out.fr 2 rfl); (try have a3 := K.out.rd 3 rfl); (try have l3 := K.out.ltp 3 rfl); (try have f3 := K.out.fr 3 rfl)) | (go_at_call 26; (with_reducible refine ((PKc _).out).mono ?_); rintro e w1 ⟨rfl, hb⟩; have K1 := sat.grown (show sat _ _ _ from by first | exact K.out | exact K.out.drew) hb; clear hb; have K2 := Lib.hid K1; clear K1 K; (try clear a0); (try clear l0); (try clear f0); (try clear a1); (try clear l1); (try clear f1); (try clear a2); (try clear l2); (try clear f2); (try clear a3); (try clear l3); (try clear f3); (try clear a4); (try clear l4); (try clear f4); (try clear a5); (try clear l5); (try clear f5); have K := K2; clear K2; (try have a0 := K.out.rd 0 rfl); (try have l0 := K.out.ltp 0 rfl); (try have f0 := K.out.fr 0 rfl); (try have a1 := K.out.rd 1 rfl); (try have l1 := K.out.ltp 1 rfl); (try have f1 := K.out.fr 1 rfl); (try have a2 := K.out.rd 2 rfl); (try have l2 := K.out.ltp 2 rfl); (try have f2 := K.out.fr 2 rfl); (try have a3 := K.out.rd 3 rfl); (try have l3 := K.out.ltp 3 rfl); (try have f3 := K.out.fr 3 rfl)) | (go_at_call 24; (with_reducible refine ((SC1 gm _ _ ((show sat E _ _ from by first | exact K.out | exact K.out.drew).pick 3 rfl)).out).mono ?_); rintro e w1 ⟨rfl, K1⟩; replace K1 := ((K1.pick 3 rfl).pick 3 rfl).pick 3 rfl; have K2 := Lib.hid K1; clear K1 K; (try clear a0); (try clear l0); (try clear f0); (try clear a1); (try clear l1); (try clear f1); (try clear a2); (try clear l2); (try clear f2); (try clear a3); (try clear l3); (try clear f3); (try clear a4); (try clear l4); (try clear f4); (try clear a5); (try clear l5); (try clear f5); have K := K2; clear K2; (try have a0 := K.out.rd 0 rfl); (try have l0 := K.out.ltp 0 rfl); (try have f0 := K.out.fr 0 rfl); (try have a1 := K.out.rd 1 rfl); (try have l1 := K.out.ltp 1 rfl); (try have f1 := K.out.fr 1 rfl); (try have a2 := K.out.rd 2 rfl); (try have l2 := K.out.ltp 2 rfl); (try have f2 := K.out.fr 2 rfl); (try have a3 := K.out.rd 3 rfl); (try have l3 := K.out.ltp 3 rfl); (try have f3 := K.out.fr 3 rfl)))
                    refine shown hkC _ _ (by (try dsimp only); (exact ⟨sat.rd 1 (by repeat (with_reducible first | exact K.out | apply sat.alloc_any | apply sat.drew | apply sat.drewN)) rfl, sat.rd 7 (by repeat (with_reducible first | exact K.out | apply sat.alloc_any | apply sat.drew | apply sat.drewN)) rfl⟩)) ?_; clear hkC kC hHeld; intro hHeld
                    (try simp only [Act.put, p0, p1, p2])
                    refine wpAnyH_ready (rs := [6]) (by kernel_rfl) (by simp) ?_
                    refine AllReadyH.cons (o := _) rfl (fun kC hkC => ?_) AllReadyH.nil
                    go_simp
                    (first | (go_at_call 23; (with_reducible refine ((WD _).out).mono ?_); rintro e w1 ⟨rfl, hb⟩; have K1 := sat.grown (show sat _ _ _ from by first | exact K.out | exact K.out.drew) hb; clear hb; have K2 := Lib.hid K1; clear K1 K; (try clear a0); (try clear l0); (try clear f0); (try clear a1); (try clear l1); (try clear f1); (try clear a2); (try clear l2); (try clear f2); (try clear a3); (try clear l3); (try clear f3); (try clear a4); (try clear l4); (try clear f4); (try clear a5); (try clear l5); (try clear f5); have K := K2; clear K2; (try have a0 := K.out.rd 0 rfl); (try have l0 := K.out.ltp 0 rfl); (try have f0 := K.out.fr 0 rfl); (try have a1 := K.out.rd 1 rfl); (try have l1 := K.out.ltp 1 rfl); (try have f1 := K.out.fr 1 rfl); (try have a2 := K.out.rd 2 rfl); (try have l2 := K.out.ltp 2 rfl); (try have f2 := K.out.fr 2 rfl); (try have a3 := K.out.rd 3 rfl); (try have l3 := K.out.ltp 3 rfl); (try have f3 := K.out.fr 3 rfl)) | (go_at_call 29; (with_reducible refine ((TW _).out).mono ?_); rintro e w1 ⟨rfl, hb⟩; have K1 := sat.grown (show sat _ _ _ from by first | exact K.out | exact K.out.drew) hb; clear hb; have K2 := Lib.hid K1; clear K1 K; (try clear a0); (try clear l0); (try clear f0); (try clear a1); (try clear l1); (try clear f1); (try clear a2); (try clear l2); (try clear f2); (try clear a3); (try clear l3); (try clear f3); (try clear a4); (try clear l4); (try clear f4); (try clear a5); (try clear l5); (try clear f5); have K := K2; clear K2; (try have a0 := K.out.rd 0 rfl); (try have l0 := K.out.ltp 0 rfl); (try have f0 := K.out.fr 0 rfl); (try have a1 := K.out.rd 1 rfl); (try have l1 := K.out.ltp 1 rfl); (try have f1 := K.out.fr 1 rfl); (try have a2 := K.out.rd 2 rfl); (try have l2 := K.out.ltp 2 rfl); (try have f2 := K.out.fr 2 rfl); (try have a3 := K.out.rd 3 rfl); (try have l3 := K.out.ltp 3 rfl); (try have f3 := K.out.fr 3 rfl)) | (go_at_call 26; (with_reducible refine ((PKc _).out).mono ?_); rintro e w1 ⟨rfl, hb⟩; have K1 := sat.grown (show sat _ _ _ from by first | exact K.out | exact K.out.drew) hb; clear hb; have K2 := Lib.hid K1; clear K1 K; (try clear a0); (try clear l0); (try clear f0); (try clear a1); (try clear l1); (try clear f1); (try clear a2); (try clear l2); (try clear f2); (try clear a3); (try clear l3); (try clear f3); (try clear a4); (try clear l4); (try clear f4); (try clear a5); (try clear l5); (try clear f5); have K := K2; clear K2; (try have a0 := K.out.rd 0 rfl); (try have l0 := K.out.ltp 0 rfl); (try have f0 := K.out.fr 0 rfl); (try have a1 := K.out.rd 1 rfl); (try have l1 := K.out.ltp 1 rfl); (try have f1 := K.out.fr 1 rfl); (try have a2 := K.out.rd 2 rfl); (try have l2 := K.out.ltp 2 rfl); (try have f2 := K.out.fr 2 rfl); (try have a3 := K.out.rd 3 rfl); (try have l3 := K.out.ltp 3 rfl); (try have f3 := K.out.fr 3 rfl)) | (go_at_call 24; (with_reducible refine ((SC1 gm _ _ ((show sat E _ _ from by first | exact K.out | exact K.out.drew).pick 3 rfl)).out).mono ?_); rintro e w1 ⟨rfl, K1⟩; replace K1 := ((K1.pick 3 rfl).pick 3 rfl).pick 3 rfl; have K2 := Lib.hid K1; clear K1 K; (try clear a0); (try clear l0); (try clear f0); (try clear a1); (try clear l1); (try clear f1); (try clear a2); (try clear l2); (try clear f2); (try clear a3); (try clear l3); (try clear f3); (try clear a4); (try clear l4); (try clear f4); (try clear a5); (try clear l5); (try clear f5); have K := K2; clear K2; (try have a0 := K.out.rd 0 rfl); (try have l0 := K.out.ltp 0 rfl); (try have f0 := K.out.fr 0 rfl); (try have a1 := K.out.rd 1 rfl); (try have l1 := K.out.ltp 1 rfl); (try have f1 := K.out.fr 1 rfl); (try have a2 := K.out.rd 2 rfl); (try have l2 := K.out.ltp 2 rfl); (try have f2 := K.out.fr 2 rfl); (try have a3 := K.out.rd 3 rfl); (try have l3 := K.out.ltp 3 rfl); (try have f3 := K.out.fr 3 rfl)))
                    refine shown hkC _ _ (by (try dsimp only); (exact ⟨sat.rd 1 (by repeat (with_reducible first | exact K.out | apply sat.alloc_any | apply sat.drew | apply sat.drewN)) rfl, sat.rd 7 (by repeat (with_reducible first | exact K.out | apply sat.alloc_any | apply sat.drew | apply sat.drewN)) rfl⟩)) ?_; clear hkC kC hHeld; intro hHeld
                    (try simp only [Act.put, p0, p1, p2])
                    refine wpAnyH_ready (rs := [7]) (by kernel_rfl) (by simp) ?_
                    refine AllReadyH.cons (o := _) rfl (fun kC hkC => ?_) AllReadyH.nil
                    go_simp
                    (first | (go_at_call 23; (with_reducible refine ((WD _).out).mono ?_); rintro e w1 ⟨rfl, hb⟩; have K1 := sat.grown (show sat _ _ _ from by first | exact K.out | exact K.out.drew) hb; clear hb; have K2 := Lib.hid K1; clear K1 K; (try clear a0); (try clear l0); (try clear f0); (try clear a1); (try clear l1); (try clear f1); (try clear a2); (try clear l2); (try clear f2); (try clear a3); (try clear l3); (try clear f3); (try clear a4); (try clear l4); (try clear f4); (try clear a5); (try clear l5); (try clear f5); have K := K2; clear K2; (try have a0 := K.out.rd 0 rfl); (try have l0 := K.out.ltp 0 rfl); (try have f0 := K.out.fr 0 rfl); (try have a1 := K.out.rd 1 rfl); (try have l1 := K.out.ltp 1 rfl); (try have f1 := K.out.fr 1 rfl); (try have a2 := K.out.rd 2 rfl); (try have l2 := K.out.ltp 2 rfl); (try have f2 := K.out.fr 2 rfl); (try have a3 := K.out.rd 3 rfl); (try have l3 := K.out.ltp 3 rfl); (try have f3 := K.out.fr 3 rfl)) | (go_at_call 29; (with_reducible refine ((TW _).out).mono ?_); rintro e w1 ⟨rfl, hb⟩; have K1 := sat.grown (show sat _ _ _ from by first | exact K.out | exact K.out.drew) hb; clear hb; have K2 := Lib.hid K1; clear K1 K; (try clear a0); (try clear l0); (try clear f0); (try clear a1); (try clear l1); (try clear f1); (try clear a2); (try clear l2); (try clear f2); (try clear a3); (try clear l3); (try clear f3); (try clear a4); (try clear l4); (try clear f4); (try clear a5); (try clear l5); (try clear f5); have K := K2; clear K2; (try have a0 := K.out.rd 0 rfl); (try have l0 := K.out.ltp 0 rfl); (try have f0 := K.out.fr 0 rfl); (try have a1 := K.out.rd 1 rfl); (try have l1 := K.out.ltp 1 rfl); (try have f1 := K.out.fr 1 rfl); (try have a2 := K.out.rd 2 rfl); (try have l2 := K.out.ltp 2 rfl); (try have f2 := K.out.fr 2 rfl); (try have a3 := K.out.rd 3 rfl); (try have l3 := K.out.ltp 3 rfl); (try have f3 := K.out.fr 3 rfl)) | (go_at_call 26; (with_reducible refine ((PKc _).out).mono ?_); rintro e w1 ⟨rfl, hb⟩; have K1 := sat.grown (show sat _ _ _ from by first | exact K.out | exact K.out.drew) hb; clear hb; have K2 := Lib.hid K1; clear K1 K; (try clear a0); (try clear l0); (try clear f0); (try clear a1); (try clear l1); (try clear f1); (try clear a2); (try clear l2); (try clear f2); (try clear a3); (try clear l3); (try clear f3); (try clear a4); (try clear l4); (try clear f4); (try clear a5); (try clear l5); (try clear f5); have K := K2; clear K2; (try have a0 := K.out.rd 0 rfl); (try have l0 := K.out.ltp 0 rfl); (try have f0 := K.out.fr 0 rfl); (try have a1 := K.out.rd 1 rfl); (try have l1 := K.out.ltp 1 rfl); (try have f1 := K.out.fr 1 rfl); (try have a2 := K.out.rd 2 rfl); (try have l2 := K.out.ltp 2 rfl); (try have f2 := K.out.fr 2 rfl); (try have a3 := K.out.rd 3 rfl); (try have l3 := K.out.ltp 3 rfl); (try have f3 := K.out.fr 3 rfl)) | (go_at_call 24; (with_reducible refine ((SC1 gm _ _ ((show sat E _ _ from by first | exact K.out | exact K.out.drew).pick 3 rfl)).out).mono ?_); rintro e w1 ⟨rfl, K1⟩; replace K1 := ((K1.pick 3 rfl).pick 3 rfl).pick 3 rfl; have K2 := Lib.hid K1; clear K1 K; (try clear a0); (try clear l0); (try clear f0); (try clear a1); (try clear l1); (try clear f1); (try clear a2); (try clear l2); (try clear f2); (try clear a3); (try clear l3); (try clear f3); (try clear a4); (try clear l4); (try clear f4); (try clear a5); (try clear l5); (try clear f5); have K := K2; clear K2; (try have a0 := K.out.rd 0 rfl); (try have l0 := K.out.ltp 0 rfl); (try have f0 := K.out.fr 0 rfl); (try have a1 := K.out.rd 1 rfl); (try have l1 := K.out.ltp 1 rfl); (try have f1 := K.out.fr 1 rfl); (try have a2 := K.out.rd 2 rfl); (try have l2 := K.out.ltp 2 rfl); (try have f2 := K.out.fr 2 rfl); (try have a3 := K.out.rd 3 rfl); (try have l3 := K.out.ltp 3 rfl); (try have f3 := K.out.fr 3 rfl)))
                    refine shown hkC _ _ (by (try dsimp only); (exact ⟨sat.rd 1 (by repeat (with_reducible first | exact K.out | apply sat.alloc_any | apply sat.drew | apply sat.drewN)) rfl, sat.rd 7 (by repeat (with_reducible first | exact K.out | apply sat.alloc_any | apply sat.drew | apply sat.drewN)) rfl⟩)) ?_; clear hkC kC hHeld; intro hHeld
                    (try simp only [Act.put, p0, p1, p2])
                    refine wpAnyH_ready (rs := [8]) (by kernel_rfl) (by simp) ?_
                    refine AllReadyH.cons (o := _) rfl (fun kC hkC => ?_) AllReadyH.nil
                    go_simp
                    (first | (go_at_call 23; (with_reducible refine ((WD _).out).mono ?_); rintro e w1 ⟨rfl, hb⟩; have K1 := sat.grown (show sat _ _ _ from by first | exact K.out | exact K.out.drew) hb; clear hb; have K2 := Lib.hid K1; clear K1 K; (try clear a0); (try clear l0); (try clear f0); (try clear a1); (try clear l1); (try clear f1); (try clear a2); (try clear l2); (try clear f2); (try clear a3); (try clear l3); (try clear f3); (try clear a4); (try clear l4); (try clear f4); (try clear a5); (try clear l5); (try clear f5); have K := K2; clear K2; (try have a0 := K.out.rd 0 rfl); (try have l0 := K.out.ltp 0 rfl); (try have f0 := K.out.fr 0 rfl); (try have a1 := K.out.rd 1 rfl); (try have l1 := K.out.ltp 1 rfl); (try have f1 := K.out.fr 1 rfl); (try have a2 := K.out.rd 2 rfl); (try have l2 := K.out.ltp 2 rfl); (try have f2 := K.out.fr 2 rfl); (try have a3 := K.out.rd 3 rfl); (try have l3 := K.out.ltp 3 rfl); (try have f3 := K.out.fr 3 rfl)) | (go_at_call 29; (with_reducible refine ((TW _).out).mono ?_); rintro e w1 ⟨rfl, hb⟩; have K1 := sat.grown (show sat _ _ _ from by first | exact K.out | exact K.out.drew) hb; clear hb; have K2 := Lib.hid K1; clear K1 K; (try clear a0); (try clear l0); (try clear f0); (try clear a1); (try clear l1); (try clear f1); (try clear a2); (try clear l2); (try clear f2); (try clear a3); (try clear l3); (try clear f3); (try clear a4); (try clear l4); (try clear f4); (try clear a5); (try clear l5); (try clear f5); have K := K2; clear K2; (try have a0 := K.out.rd 0 rfl); (try have l0 := K.out.ltp 0 rfl); (try have f0 := K.out.fr 0 rfl); (try have a1 := K.out.rd 1 rfl); (try have l1 := K.out.ltp 1 rfl); (try have f1 := K.out.fr 1 rfl); (try have a2 := K.out.rd 2 rfl); (try have l2 := K.out.ltp 2 rfl); (try have f2 := K.out.fr 2 rfl); (try have a3 := K.out.rd 3 rfl); (try have l3 := K.out.ltp 3 rfl); (try have f3 := K.out.fr 3 rfl)) | (go_at_call 26; (with_reducible refine ((PKc _).out).mono ?_); rintro e w1 ⟨rfl, hb⟩; have K1 := sat.grown (show sat _ _ _ from by first | exact K.out | exact K.out.drew) hb; clear hb; have K2 := Lib.hid K1; clear K1 K; (try clear a0); (try clear l0); (try clear f0); (try clear a1); (try clear l1); (try clear f1); (try clear a2); (try clear l2); (try clear f2); (try clear a3); (try clear l3); (try clear f3); (try clear a4); (try clear l4); (try clear f4); (try clear a5); (try clear l5); (try clear f5); have K := K2; clear K2; (try have a0 := K.out.rd 0 rfl); (try have l0 := K.out.ltp 0 rfl); (try have f0 := K.out.fr 0 rfl); (try have a1 := K.out.rd 1 rfl); (try have l1 := K.out.ltp 1 rfl); (try have f1 := K.out.fr 1 rfl); (try have a2 := K.out.rd 2 rfl); (try have l2 := K.out.ltp 2 rfl); (try have f2 := K.out.fr 2 rfl); (try have a3 := K.out.rd 3 rfl); (try have l3 := K.out.ltp 3 rfl); (try have f3 := K.out.fr 3 rfl)) | (go_at_call 24; (with_reducible refine ((SC1 gm _ _ ((show sat E _ _ from by first | exact K.out | exact K.out.drew).pick 3 rfl)).out).mono ?_); rintro e w1 ⟨rfl, K1⟩; replace K1 := ((K1.pick 3 rfl).pick 3 rfl).pick 3 rfl; have K2 := Lib.hid K1; clear K1 K; (try clear a0); (try clear l0); (try clear f0); (try clear a1); (try clear l1); (try clear f1); (try clear a2); (try clear l2); (try clear f2); (try clear a3); (try clear l3); (try clear f3); (try clear a4); (try clear l4); (try clear f4); (try clear a5); (try clear l5); (try clear f5); have K := K2; clear K2; (try have a0 := K.out.rd 0 rfl); (try have l0 := K.out.ltp 0 rfl); (try have f0 := K.out.fr 0 rfl); (try have a1 := K.out.rd 1 rfl); (try have l1 := K.out.ltp 1 rfl); (try have f1 := K.out.fr 1 rfl); (try have a2 := K.out.rd 2 rfl); (try have l2 := K.out.ltp 2 rfl); (try have f2 := K.out.fr 2 rfl); (try have a3 := K.out.rd 3 rfl); (try have l3 := K.out.ltp 3 rfl); (try have f3 := K.out.fr 3 rfl)))
                    refine shown hkC _ _ (by (try dsimp only); (exact ⟨sat.rd 1 (by repeat (with_reducible first | exact K.out | apply sat.alloc_any | apply sat.drew | apply sat.drewN)) rfl, sat.rd 7 (by repeat (with_reducible first | exact K.out | apply sat.alloc_any | apply sat.drew | apply sat.drewN)) rfl⟩)) ?_; clear hkC kC hHeld; intro hHeld
                    (try simp only [Act.put, p0, p1, p2])
                    refine wpAnyH_done (by kernel_rfl) (NoPanic.normal ?_) _
                    clear hHeld
                    go_wp2_with fail
                    refine wp_region_noPanic ?_
                    refine wp_region_held_drew (S := (fun w' => (∀ q, w'.cell? ⟨gT, q, none⟩ = (TurnM.v T)[q]?) ∧ (∀ q, w'.cell? ⟨gc, q, none⟩ = ([.int .i64 c.th, .int .i64 c.sl, .int .i64 c.src, .int .i64 c.dl] : List Value)[q]?))) (by kernel_rfl) ?_ (fun hHeld => ?_)
                    · ((try dsimp only); (exact ⟨sat.rd 1 (by repeat (with_reducible first | exact K.out | apply sat.alloc_any | apply sat.drew | apply sat.drewN)) rfl, sat.rd 7 (by repeat (with_reducible first | exact K.out | apply sat.alloc_any | apply sat.drew | apply sat.drewN)) rfl⟩))
                    refine tk 0 (some 110) ?_
                    (try simp only [Act.put, p0, p1, p2])
                    refine tk 1 (some 111) ?_
                    (try simp only [Act.put, p0, p1, p2])
                    refine tk 2 (some 112) ?_
                    (try simp only [Act.put, p0, p1, p2])
                    refine tk 4 (some 114) ?_
                    (try simp only [Act.put, p0, p1, p2])
                    refine tk 5 (some 115) ?_
                    (try simp only [Act.put, p0, p1, p2])
                    refine tk 6 (some 116) ?_
                    (try simp only [Act.put, p0, p1, p2])
                    refine wpAnyH_ready (rs := [3]) (by kernel_rfl) (by simp) ?_
                    refine AllReadyH.cons (o := _) rfl (fun kC hkC => ?_) AllReadyH.nil
                    go_simp
                    (first | (go_at_call 14; (with_reducible refine ((VD _).out).mono ?_); rintro e w1 ⟨rfl, hb⟩; have K1 := sat.grown (show sat _ _ _ from by first | exact K.out | exact K.out.drew) hb; clear hb; have K2 := Lib.hid K1; clear K1 K; (try clear a0); (try clear l0); (try clear f0); (try clear a1); (try clear l1); (try clear f1); (try clear a2); (try clear l2); (try clear f2); (try clear a3); (try clear l3); (try clear f3); (try clear a4); (try clear l4); (try clear f4); (try clear a5); (try clear l5); (try clear f5); have K := K2; clear K2; (try have a0 := K.out.rd 0 rfl); (try have l0 := K.out.ltp 0 rfl); (try have f0 := K.out.fr 0 rfl); (try have a1 := K.out.rd 1 rfl); (try have l1 := K.out.ltp 1 rfl); (try have f1 := K.out.fr 1 rfl); (try have a2 := K.out.rd 2 rfl); (try have l2 := K.out.ltp 2 rfl); (try have f2 := K.out.fr 2 rfl); (try have a3 := K.out.rd 3 rfl); (try have l3 := K.out.ltp 3 rfl); (try have f3 := K.out.fr 3 rfl)) | (go_at_call 24; (with_reducible refine ((SC2 gm _ _ ((show sat E _ _ from by first | exact K.out | exact K.out.drew).pick 3 rfl)).out).mono ?_); rintro e w1 ⟨rfl, K1⟩; replace K1 := ((K1.pick 3 rfl).pick 3 rfl).pick 3 rfl; have K2 := Lib.hid K1; clear K1 K; (try clear a0); (try clear l0); (try clear f0); (try clear a1); (try clear l1); (try clear f1); (try clear a2); (try clear l2); (try clear f2); (try clear a3); (try clear l3); (try clear f3); (try clear a4); (try clear l4); (try clear f4); (try clear a5); (try clear l5); (try clear f5); have K := K2; clear K2; (try have a0 := K.out.rd 0 rfl); (try have l0 := K.out.ltp 0 rfl); (try have f0 := K.out.fr 0 rfl); (try have a1 := K.out.rd 1 rfl); (try have l1 := K.out.ltp 1 rfl); (try have f1 := K.out.fr 1 rfl); (try have a2 := K.out.rd 2 rfl); (try have l2 := K.out.ltp 2 rfl); (try have f2 := K.out.fr 2 rfl); (try have a3 := K.out.rd 3 rfl); (try have l3 := K.out.ltp 3 rfl); (try have f3 := K.out.fr 3 rfl)))
                    refine shown hkC _ _ (by (try dsimp only); (exact ⟨sat.rd 1 (by repeat (with_reducible first | exact K.out | apply sat.alloc_any | apply sat.drew | apply sat.drewN)) rfl, sat.rd 7 (by repeat (with_reducible first | exact K.out | apply sat.alloc_any | apply sat.drew | apply sat.drewN)) rfl⟩)) ?_; clear hkC kC hHeld; intro hHeld
                    (try simp only [Act.put, p0, p1, p2])
                    refine wpAnyH_ready (rs := [7]) (by kernel_rfl) (by simp) ?_
                    refine AllReadyH.cons (o := _) rfl (fun kC hkC => ?_) AllReadyH.nil
                    go_simp
                    (first | (go_at_call 14; (with_reducible refine ((VD _).out).mono ?_); rintro e w1 ⟨rfl, hb⟩; have K1 := sat.grown (show sat _ _ _ from by first | exact K.out | exact K.out.drew) hb; clear hb; have K2 := Lib.hid K1; clear K1 K; (try clear a0); (try clear l0); (try clear f0); (try clear a1); (try clear l1); (try clear f1); (try clear a2); (try clear l2); (try clear f2); (try clear a3); (try clear l3); (try clear f3); (try clear a4); (try clear l4); (try clear f4); (try clear a5); (try clear l5); (try clear f5); have K := K2; clear K2; (try have a0 := K.out.rd 0 rfl); (try have l0 := K.out.ltp 0 rfl); (try have f0 := K.out.fr 0 rfl); (try have a1 := K.out.rd 1 rfl); (try have l1 := K.out.ltp 1 rfl); (try have f1 := K.out.fr 1 rfl); (try have a2 := K.out.rd 2 rfl); (try have l2 := K.out.ltp 2 rfl); (try have f2 := K.out.fr 2 rfl); (try have a3 := K.out.rd 3 rfl); (try have l3 := K.out.ltp 3 rfl); (try have f3 := K.out.fr 3 rfl)) | (go_at_call 24; (with_reducible refine ((SC2 gm _ _ ((show sat E _ _ from by first | exact K.out | exact K.out.drew).pick 3 rfl)).out).mono ?_); rintro e w1 ⟨rfl, K1⟩; replace K1 := ((K1.pick 3 rfl).pick 3 rfl).pick 3 rfl; have K2 := Lib.hid K1; clear K1 K; (try clear a0); (try clear l0); (try clear f0); (try clear a1); (try clear l1); (try clear f1); (try clear a2); (try clear l2); (try clear f2); (try clear a3); (try clear l3); (try clear f3); (try clear a4); (try clear l4); (try clear f4); (try clear a5); (try clear l5); (try clear f5); have K := K2; clear K2; (try have a0 := K.out.rd 0 rfl); (try have l0 := K.out.ltp 0 rfl); (try have f0 := K.out.fr 0 rfl); (try have a1 := K.out.rd 1 rfl); (try have l1 := K.out.ltp 1 rfl); (try have f1 := K.out.fr 1 rfl); (try have a2 := K.out.rd 2 rfl); (try have l2 := K.out.ltp 2 rfl); (try have f2 := K.out.fr 2 rfl); (try have a3 := K.out.rd 3 rfl); (try have l3 := K.out.ltp 3 rfl); (try have f3 := K.out.fr 3 rfl)))
                    refine shown hkC _ _ (by (try dsimp only); (exact ⟨sat.rd 1 (by repeat (with_reducible first | exact K.out | apply sat.alloc_any | apply sat.drew | apply sat.drewN)) rfl, sat.rd 7 (by repeat (with_reducible first | exact K.out | apply sat.alloc_any | apply sat.drew | apply sat.drewN)) rfl⟩)) ?_; clear hkC kC hHeld; intro hHeld
                    (try simp only [Act.put, p0, p1, p2])
                    refine wpAnyH_done (by kernel_rfl) (NoPanic.normal ?_) _
                    all_goals
                      go_wp2_with fail
                      go_roundg gk3
                      case measure => omega
                      case rel => exact ⟨1, by omega, by first | rfl | (simp; done) | (simp; exact w64 (by omega) (by omega)), by first | exact K.out | exact K.out.drew⟩
                  · obtain ⟨gk3, rfl⟩ : ∃ g', gk = g' + 1 := ⟨gk - 1, by omega⟩
                    have a0 := K.out.rd 0 rfl
                    have l0 := K.out.ltp 0 rfl
                    go_wp2_with fail
                    refine wp_region_noPanic ?_
                    refine wp_region_held_drew (S := (fun w' => (∀ q, w'.cell? ⟨gT, q, none⟩ = (TurnM.v T)[q]?) ∧ (∀ q, w'.cell? ⟨gc, q, none⟩ = ([.int .i64 c.th, .int .i64 c.sl, .int .i64 c.src, .int .i64 c.dl] : List Value)[q]?))) (by kernel_rfl) ?_ (fun hHeld => ?_)
                    · ((try dsimp only); (exact ⟨sat.rd 1 (by repeat (with_reducible first | exact K.out | apply sat.alloc_any | apply sat.drew | apply sat.drewN)) rfl, sat.rd 7 (by repeat (with_reducible first | exact K.out | apply sat.alloc_any | apply sat.drew | apply sat.drewN)) rfl⟩))
                    refine tk 0 (some 101) ?_
                    (try simp only [Act.put, p0, p1, p2])
                    refine tk 1 (some 102) ?_
                    (try simp only [Act.put, p0, p1, p2])
                    refine tk 2 (some 103) ?_
                    (try simp only [Act.put, p0, p1, p2])
                    refine tk 4 (some 105) ?_
                    (try simp only [Act.put, p0, p1, p2])
                    refine tk 5 (some 106) ?_
                    (try simp only [Act.put, p0, p1, p2])
                    refine wpAnyH_ready (rs := [3]) (by kernel_rfl) (by simp) ?_
                    refine AllReadyH.cons (o := _) rfl (fun kC hkC => ?_) AllReadyH.nil
                    go_simp
                    (first | (go_at_call 23; (with_reducible refine ((WD _).out).mono ?_); rintro e w1 ⟨rfl, hb⟩; have K1 := sat.grown (show sat _ _ _ from by first | exact K.out | exact K.out.drew) hb; clear hb; have K2 := Lib.hid K1; clear K1 K; (try clear a0); (try clear l0); (try clear f0); (try clear a1); (try clear l1); (try clear f1); (try clear a2); (try clear l2); (try clear f2); (try clear a3); (try clear l3); (try clear f3); (try clear a4); (try clear l4); (try clear f4); (try clear a5); (try clear l5); (try clear f5); have K := K2; clear K2; (try have a0 := K.out.rd 0 rfl); (try have l0 := K.out.ltp 0 rfl); (try have f0 := K.out.fr 0 rfl); (try have a1 := K.out.rd 1 rfl); (try have l1 := K.out.ltp 1 rfl); (try have f1 := K.out.fr 1 rfl); (try have a2 := K.out.rd 2 rfl); (try have l2 := K.out.ltp 2 rfl); (try have f2 := K.out.fr 2 rfl); (try have a3 := K.out.rd 3 rfl); (try have l3 := K.out.ltp 3 rfl); (try have f3 := K.out.fr 3 rfl)) | (go_at_call 29; (with_reducible refine ((TW _).out).mono ?_); rintro e w1 ⟨rfl, hb⟩; have K1 := sat.grown (show sat _ _ _ from by first | exact K.out | exact K.out.drew) hb; clear hb; have K2 := Lib.hid K1; clear K1 K; (try clear a0); (try clear l0); (try clear f0); (try clear a1); (try clear l1); (try clear f1); (try clear a2); (try clear l2); (try clear f2); (try clear a3); (try clear l3); (try clear f3); (try clear a4); (try clear l4); (try clear f4); (try clear a5); (try clear l5); (try clear f5); have K := K2; clear K2; (try have a0 := K.out.rd 0 rfl); (try have l0 := K.out.ltp 0 rfl); (try have f0 := K.out.fr 0 rfl); (try have a1 := K.out.rd 1 rfl); (try have l1 := K.out.ltp 1 rfl); (try have f1 := K.out.fr 1 rfl); (try have a2 := K.out.rd 2 rfl); (try have l2 := K.out.ltp 2 rfl); (try have f2 := K.out.fr 2 rfl); (try have a3 := K.out.rd 3 rfl); (try have l3 := K.out.ltp 3 rfl); (try have f3 := K.out.fr 3 rfl)) | (go_at_call 26; (with_reducible refine ((PKc _).out).mono ?_); rintro e w1 ⟨rfl, hb⟩; have K1 := sat.grown (show sat _ _ _ from by first | exact K.out | exact K.out.drew) hb; clear hb; have K2 := Lib.hid K1; clear K1 K; (try clear a0); (try clear l0); (try clear f0); (try clear a1); (try clear l1); (try clear f1); (try clear a2); (try clear l2); (try clear f2); (try clear a3); (try clear l3); (try clear f3); (try clear a4); (try clear l4); (try clear f4); (try clear a5); (try clear l5); (try clear f5); have K := K2; clear K2; (try have a0 := K.out.rd 0 rfl); (try have l0 := K.out.ltp 0 rfl); (try have f0 := K.out.fr 0 rfl); (try have a1 := K.out.rd 1 rfl); (try have l1 := K.out.ltp 1 rfl); (try have f1 := K.out.fr 1 rfl); (try have a2 := K.out.rd 2 rfl); (try have l2 := K.out.ltp 2 rfl); (try have f2 := K.out.fr 2 rfl); (try have a3 := K.out.rd 3 rfl); (try have l3 := K.out.ltp 3 rfl); (try have f3 := K.out.fr 3 rfl)) | (go_at_call 24; (with_reducible refine ((SC1 gn _ _ ((show sat E _ _ from by first | exact K.out | exact K.out.drew).pick 4 rfl)).out).mono ?_); rintro e w1 ⟨rfl, K1⟩; replace K1 := (((K1.pick 4 rfl).pick 4 rfl).pick 4 rfl).pick 4 rfl; have K2 := Lib.hid K1; clear K1 K; (try clear a0); (try clear l0); (try clear f0); (try clear a1); (try clear l1); (try clear f1); (try clear a2); (try clear l2); (try clear f2); (try clear a3); (try clear l3); (try clear f3); (try clear a4); (try clear l4); (try clear f4); (try clear a5); (try clear l5); (try clear f5); have K := K2; clear K2; (try have a0 := K.out.rd 0 rfl); (try have l0 := K.out.ltp 0 rfl); (try have f0 := K.out.fr 0 rfl); (try have a1 := K.out.rd 1 rfl); (try have l1 := K.out.ltp 1 rfl); (try have f1 := K.out.fr 1 rfl); (try have a2 := K.out.rd 2 rfl); (try have l2 := K.out.ltp 2 rfl); (try have f2 := K.out.fr 2 rfl); (try have a3 := K.out.rd 3 rfl); (try have l3 := K.out.ltp 3 rfl); (try have f3 := K.out.fr 3 rfl)))
                    refine shown hkC _ _ (by (try dsimp only); (exact ⟨sat.rd 1 (by repeat (with_reducible first | exact K.out | apply sat.alloc_any | apply sat.drew | apply sat.drewN)) rfl, sat.rd 7 (by repeat (with_reducible first | exact K.out | apply sat.alloc_any | apply sat.drew | apply sat.drewN)) rfl⟩)) ?_; clear hkC kC hHeld; intro hHeld
                    (try simp only [Act.put, p0, p1, p2])
                    refine wpAnyH_ready (rs := [6]) (by kernel_rfl) (by simp) ?_
                    refine AllReadyH.cons (o := _) rfl (fun kC hkC => ?_) AllReadyH.nil
                    go_simp
                    (first | (go_at_call 23; (with_reducible refine ((WD _).out).mono ?_); rintro e w1 ⟨rfl, hb⟩; have K1 := sat.grown (show sat _ _ _ from by first | exact K.out | exact K.out.drew) hb; clear hb; have K2 := Lib.hid K1; clear K1 K; (try clear a0); (try clear l0); (try clear f0); (try clear a1); (try clear l1); (try clear f1); (try clear a2); (try clear l2); (try clear f2); (try clear a3); (try clear l3); (try clear f3); (try clear a4); (try clear l4); (try clear f4); (try clear a5); (try clear l5); (try clear f5); have K := K2; clear K2; (try have a0 := K.out.rd 0 rfl); (try have l0 := K.out.ltp 0 rfl); (try have f0 := K.out.fr 0 rfl); (try have a1 := K.out.rd 1 rfl); (try have l1 := K.out.ltp 1 rfl); (try have f1 := K.out.fr 1 rfl); (try have a2 := K.out.rd 2 rfl); (try have l2 := K.out.ltp 2 rfl); (try have f2 := K.out.fr 2 rfl); (try have a3 := K.out.rd 3 rfl); (try have l3 := K.out.ltp 3 rfl); (try have f3 := K.out.fr 3 rfl)) | (go_at_call 29; (with_reducible refine ((TW _).out).mono ?_); rintro e w1 ⟨rfl, hb⟩; have K1 := sat.grown (show sat _ _ _ from by first | exact K.out | exact K.out.drew) hb; clear hb; have K2 := Lib.hid K1; clear K1 K; (try clear a0); (try clear l0); (try clear f0); (try clear a1); (try clear l1); (try clear f1); (try clear a2); (try clear l2); (try clear f2); (try clear a3); (try clear l3); (try clear f3); (try clear a4); (try clear l4); (try clear f4); (try clear a5); (try clear l5); (try clear f5); have K := K2; clear K2; (try have a0 := K.out.rd 0 rfl); (try have l0 := K.out.ltp 0 rfl); (try have f0 := K.out.fr 0 rfl); (try have a1 := K.out.rd 1 rfl); (try have l1 := K.out.ltp 1 rfl); (try have f1 := K.out.fr 1 rfl); (try have a2 := K.out.rd 2 rfl); (try have l2 := K.out.ltp 2 rfl); (try have f2 := K.out.fr 2 rfl); (try have a3 := K.out.rd 3 rfl); (try have l3 := K.out.ltp 3 rfl); (try have f3 := K.out.fr 3 rfl)) | (go_at_call 26; (with_reducible refine ((PKc _).out).mono ?_); rintro e w1 ⟨rfl, hb⟩; have K1 := sat.grown (show sat _ _ _ from by first | exact K.out | exact K.out.drew) hb; clear hb; have K2 := Lib.hid K1; clear K1 K; (try clear a0); (try clear l0); (try clear f0); (try clear a1); (try clear l1); (try clear f1); (try clear a2); (try clear l2); (try clear f2); (try clear a3); (try clear l3); (try clear f3); (try clear a4); (try clear l4); (try clear f4); (try clear a5); (try clear l5); (try clear f5); have K := K2; clear K2; (try have a0 := K.out.rd 0 rfl); (try have l0 := K.out.ltp 0 rfl); (try have f0 := K.out.fr 0 rfl); (try have a1 := K.out.rd 1 rfl); (try have l1 := K.out.ltp 1 rfl); (try have f1 := K.out.fr 1 rfl); (try have a2 := K.out.rd 2 rfl); (try have l2 := K.out.ltp 2 rfl); (try have f2 := K.out.fr 2 rfl); (try have a3 := K.out.rd 3 rfl); (try have l3 := K.out.ltp 3 rfl); (try have f3 := K.out.fr 3 rfl)) | (go_at_call 24; (with_reducible refine ((SC1 gn _ _ ((show sat E _ _ from by first | exact K.out | exact K.out.drew).pick 4 rfl)).out).mono ?_); rintro e w1 ⟨rfl, K1⟩; replace K1 := (((K1.pick 4 rfl).pick 4 rfl).pick 4 rfl).pick 4 rfl; have K2 := Lib.hid K1; clear K1 K; (try clear a0); (try clear l0); (try clear f0); (try clear a1); (try clear l1); (try clear f1); (try clear a2); (try clear l2); (try clear f2); (try clear a3); (try clear l3); (try clear f3); (try clear a4); (try clear l4); (try clear f4); (try clear a5); (try clear l5); (try clear f5); have K := K2; clear K2; (try have a0 := K.out.rd 0 rfl); (try have l0 := K.out.ltp 0 rfl); (try have f0 := K.out.fr 0 rfl); (try have a1 := K.out.rd 1 rfl); (try have l1 := K.out.ltp 1 rfl); (try have f1 := K.out.fr 1 rfl); (try have a2 := K.out.rd 2 rfl); (try have l2 := K.out.ltp 2 rfl); (try have f2 := K.out.fr 2 rfl); (try have a3 := K.out.rd 3 rfl); (try have l3 := K.out.ltp 3 rfl); (try have f3 := K.out.fr 3 rfl)))
                    refine shown hkC _ _ (by (try dsimp only); (exact ⟨sat.rd 1 (by repeat (with_reducible first | exact K.out | apply sat.alloc_any | apply sat.drew | apply sat.drewN)) rfl, sat.rd 7 (by repeat (with_reducible first | exact K.out | apply sat.alloc_any | apply sat.drew | apply sat.drewN)) rfl⟩)) ?_; clear hkC kC hHeld; intro hHeld
                    (try simp only [Act.put, p0, p1, p2])
                    refine wpAnyH_ready (rs := [7]) (by kernel_rfl) (by simp) ?_
                    refine AllReadyH.cons (o := _) rfl (fun kC hkC => ?_) AllReadyH.nil
                    go_simp
                    (first | (go_at_call 23; (with_reducible refine ((WD _).out).mono ?_); rintro e w1 ⟨rfl, hb⟩; have K1 := sat.grown (show sat _ _ _ from by first | exact K.out | exact K.out.drew) hb; clear hb; have K2 := Lib.hid K1; clear K1 K; (try clear a0); (try clear l0); (try clear f0); (try clear a1); (try clear l1); (try clear f1); (try clear a2); (try clear l2); (try clear f2); (try clear a3); (try clear l3); (try clear f3); (try clear a4); (try clear l4); (try clear f4); (try clear a5); (try clear l5); (try clear f5); have K := K2; clear K2; (try have a0 := K.out.rd 0 rfl); (try have l0 := K.out.ltp 0 rfl); (try have f0 := K.out.fr 0 rfl); (try have a1 := K.out.rd 1 rfl); (try have l1 := K.out.ltp 1 rfl); (try have f1 := K.out.fr 1 rfl); (try have a2 := K.out.rd 2 rfl); (try have l2 := K.out.ltp 2 rfl); (try have f2 := K.out.fr 2 rfl); (try have a3 := K.out.rd 3 rfl); (try have l3 := K.out.ltp 3 rfl); (try have f3 := K.out.fr 3 rfl)) | (go_at_call 29; (with_reducible refine ((TW _).out).mono ?_); rintro e w1 ⟨rfl, hb⟩; have K1 := sat.grown (show sat _ _ _ from by first | exact K.out | exact K.out.drew) hb; clear hb; have K2 := Lib.hid K1; clear K1 K; (try clear a0); (try clear l0); (try clear f0); (try clear a1); (try clear l1); (try clear f1); (try clear a2); (try clear l2); (try clear f2); (try clear a3); (try clear l3); (try clear f3); (try clear a4); (try clear l4); (try clear f4); (try clear a5); (try clear l5); (try clear f5); have K := K2; clear K2; (try have a0 := K.out.rd 0 rfl); (try have l0 := K.out.ltp 0 rfl); (try have f0 := K.out.fr 0 rfl); (try have a1 := K.out.rd 1 rfl); (try have l1 := K.out.ltp 1 rfl); (try have f1 := K.out.fr 1 rfl); (try have a2 := K.out.rd 2 rfl); (try have l2 := K.out.ltp 2 rfl); (try have f2 := K.out.fr 2 rfl); (try have a3 := K.out.rd 3 rfl); (try have l3 := K.out.ltp 3 rfl); (try have f3 := K.out.fr 3 rfl)) | (go_at_call 26; (with_reducible refine ((PKc _).out).mono ?_); rintro e w1 ⟨rfl, hb⟩; have K1 := sat.grown (show sat _ _ _ from by first | exact K.out | exact K.out.drew) hb; clear hb; have K2 := Lib.hid K1; clear K1 K; (try clear a0); (try clear l0); (try clear f0); (try clear a1); (try clear l1); (try clear f1); (try clear a2); (try clear l2); (try clear f2); (try clear a3); (try clear l3); (try clear f3); (try clear a4); (try clear l4); (try clear f4); (try clear a5); (try clear l5); (try clear f5); have K := K2; clear K2; (try have a0 := K.out.rd 0 rfl); (try have l0 := K.out.ltp 0 rfl); (try have f0 := K.out.fr 0 rfl); (try have a1 := K.out.rd 1 rfl); (try have l1 := K.out.ltp 1 rfl); (try have f1 := K.out.fr 1 rfl); (try have a2 := K.out.rd 2 rfl); (try have l2 := K.out.ltp 2 rfl); (try have f2 := K.out.fr 2 rfl); (try have a3 := K.out.rd 3 rfl); (try have l3 := K.out.ltp 3 rfl); (try have f3 := K.out.fr 3 rfl)) | (go_at_call 24; (with_reducible refine ((SC1 gn _ _ ((show sat E _ _ from by first | exact K.out | exact K.out.drew).pick 4 rfl)).out).mono ?_); rintro e w1 ⟨rfl, K1⟩; replace K1 := (((K1.pick 4 rfl).pick 4 rfl).pick 4 rfl).pick 4 rfl; have K2 := Lib.hid K1; clear K1 K; (try clear a0); (try clear l0); (try clear f0); (try clear a1); (try clear l1); (try clear f1); (try clear a2); (try clear l2); (try clear f2); (try clear a3); (try clear l3); (try clear f3); (try clear a4); (try clear l4); (try clear f4); (try clear a5); (try clear l5); (try clear f5); have K := K2; clear K2; (try have a0 := K.out.rd 0 rfl); (try have l0 := K.out.ltp 0 rfl); (try have f0 := K.out.fr 0 rfl); (try have a1 := K.out.rd 1 rfl); (try have l1 := K.out.ltp 1 rfl); (try have f1 := K.out.fr 1 rfl); (try have a2 := K.out.rd 2 rfl); (try have l2 := K.out.ltp 2 rfl); (try have f2 := K.out.fr 2 rfl); (try have a3 := K.out.rd 3 rfl); (try have l3 := K.out.ltp 3 rfl); (try have f3 := K.out.fr 3 rfl)))
                    refine shown hkC _ _ (by (try dsimp only); (exact ⟨sat.rd 1 (by repeat (with_reducible first | exact K.out | apply sat.alloc_any | apply sat.drew | apply sat.drewN)) rfl, sat.rd 7 (by repeat (with_reducible first | exact K.out | apply sat.alloc_any | apply sat.drew | apply sat.drewN)) rfl⟩)) ?_; clear hkC kC hHeld; intro hHeld
                    (try simp only [Act.put, p0, p1, p2])
                    refine wpAnyH_ready (rs := [8]) (by kernel_rfl) (by simp) ?_
                    refine AllReadyH.cons (o := _) rfl (fun kC hkC => ?_) AllReadyH.nil
                    go_simp
                    (first | (go_at_call 23; (with_reducible refine ((WD _).out).mono ?_); rintro e w1 ⟨rfl, hb⟩; have K1 := sat.grown (show sat _ _ _ from by first | exact K.out | exact K.out.drew) hb; clear hb; have K2 := Lib.hid K1; clear K1 K; (try clear a0); (try clear l0); (try clear f0); (try clear a1); (try clear l1); (try clear f1); (try clear a2); (try clear l2); (try clear f2); (try clear a3); (try clear l3); (try clear f3); (try clear a4); (try clear l4); (try clear f4); (try clear a5); (try clear l5); (try clear f5); have K := K2; clear K2; (try have a0 := K.out.rd 0 rfl); (try have l0 := K.out.ltp 0 rfl); (try have f0 := K.out.fr 0 rfl); (try have a1 := K.out.rd 1 rfl); (try have l1 := K.out.ltp 1 rfl); (try have f1 := K.out.fr 1 rfl); (try have a2 := K.out.rd 2 rfl); (try have l2 := K.out.ltp 2 rfl); (try have f2 := K.out.fr 2 rfl); (try have a3 := K.out.rd 3 rfl); (try have l3 := K.out.ltp 3 rfl); (try have f3 := K.out.fr 3 rfl)) | (go_at_call 29; (with_reducible refine ((TW _).out).mono ?_); rintro e w1 ⟨rfl, hb⟩; have K1 := sat.grown (show sat _ _ _ from by first | exact K.out | exact K.out.drew) hb; clear hb; have K2 := Lib.hid K1; clear K1 K; (try clear a0); (try clear l0); (try clear f0); (try clear a1); (try clear l1); (try clear f1); (try clear a2); (try clear l2); (try clear f2); (try clear a3); (try clear l3); (try clear f3); (try clear a4); (try clear l4); (try clear f4); (try clear a5); (try clear l5); (try clear f5); have K := K2; clear K2; (try have a0 := K.out.rd 0 rfl); (try have l0 := K.out.ltp 0 rfl); (try have f0 := K.out.fr 0 rfl); (try have a1 := K.out.rd 1 rfl); (try have l1 := K.out.ltp 1 rfl); (try have f1 := K.out.fr 1 rfl); (try have a2 := K.out.rd 2 rfl); (try have l2 := K.out.ltp 2 rfl); (try have f2 := K.out.fr 2 rfl); (try have a3 := K.out.rd 3 rfl); (try have l3 := K.out.ltp 3 rfl); (try have f3 := K.out.fr 3 rfl)) | (go_at_call 26; (with_reducible refine ((PKc _).out).mono ?_); rintro e w1 ⟨rfl, hb⟩; have K1 := sat.grown (show sat _ _ _ from by first | exact K.out | exact K.out.drew) hb; clear hb; have K2 := Lib.hid K1; clear K1 K; (try clear a0); (try clear l0); (try clear f0); (try clear a1); (try clear l1); (try clear f1); (try clear a2); (try clear l2); (try clear f2); (try clear a3); (try clear l3); (try clear f3); (try clear a4); (try clear l4); (try clear f4); (try clear a5); (try clear l5); (try clear f5); have K := K2; clear K2; (try have a0 := K.out.rd 0 rfl); (try have l0 := K.out.ltp 0 rfl); (try have f0 := K.out.fr 0 rfl); (try have a1 := K.out.rd 1 rfl); (try have l1 := K.out.ltp 1 rfl); (try have f1 := K.out.fr 1 rfl); (try have a2 := K.out.rd 2 rfl); (try have l2 := K.out.ltp 2 rfl); (try have f2 := K.out.fr 2 rfl); (try have a3 := K.out.rd 3 rfl); (try have l3 := K.out.ltp 3 rfl); (try have f3 := K.out.fr 3 rfl)) | (go_at_call 24; (with_reducible refine ((SC1 gn _ _ ((show sat E _ _ from by first | exact K.out | exact K.out.drew).pick 4 rfl)).out).mono ?_); rintro e w1 ⟨rfl, K1⟩; replace K1 := (((K1.pick 4 rfl).pick 4 rfl).pick 4 rfl).pick 4 rfl; have K2 := Lib.hid K1; clear K1 K; (try clear a0); (try clear l0); (try clear f0); (try clear a1); (try clear l1); (try clear f1); (try clear a2); (try clear l2); (try clear f2); (try clear a3); (try clear l3); (try clear f3); (try clear a4); (try clear l4); (try clear f4); (try clear a5); (try clear l5); (try clear f5); have K := K2; clear K2; (try have a0 := K.out.rd 0 rfl); (try have l0 := K.out.ltp 0 rfl); (try have f0 := K.out.fr 0 rfl); (try have a1 := K.out.rd 1 rfl); (try have l1 := K.out.ltp 1 rfl); (try have f1 := K.out.fr 1 rfl); (try have a2 := K.out.rd 2 rfl); (try have l2 := K.out.ltp 2 rfl); (try have f2 := K.out.fr 2 rfl); (try have a3 := K.out.rd 3 rfl); (try have l3 := K.out.ltp 3 rfl); (try have f3 := K.out.fr 3 rfl)))
                    refine shown hkC _ _ (by (try dsimp only); (exact ⟨sat.rd 1 (by repeat (with_reducible first | exact K.out | apply sat.alloc_any | apply sat.drew | apply sat.drewN)) rfl, sat.rd 7 (by repeat (with_reducible first | exact K.out | apply sat.alloc_any | apply sat.drew | apply sat.drewN)) rfl⟩)) ?_; clear hkC kC hHeld; intro hHeld
                    (try simp only [Act.put, p0, p1, p2])
                    refine wpAnyH_done (by kernel_rfl) (NoPanic.normal ?_) _
                    clear hHeld
                    go_wp2_with fail
                    refine wp_region_noPanic ?_
                    refine wp_region_held_drew (S := (fun w' => (∀ q, w'.cell? ⟨gT, q, none⟩ = (TurnM.v T)[q]?) ∧ (∀ q, w'.cell? ⟨gc, q, none⟩ = ([.int .i64 c.th, .int .i64 c.sl, .int .i64 c.src, .int .i64 c.dl] : List Value)[q]?))) (by kernel_rfl) ?_ (fun hHeld => ?_)
                    · ((try dsimp only); (exact ⟨sat.rd 1 (by repeat (with_reducible first | exact K.out | apply sat.alloc_any | apply sat.drew | apply sat.drewN)) rfl, sat.rd 7 (by repeat (with_reducible first | exact K.out | apply sat.alloc_any | apply sat.drew | apply sat.drewN)) rfl⟩))
                    refine tk 0 (some 110) ?_
                    (try simp only [Act.put, p0, p1, p2])
                    refine tk 1 (some 111) ?_
                    (try simp only [Act.put, p0, p1, p2])
                    refine tk 2 (some 112) ?_
                    (try simp only [Act.put, p0, p1, p2])
                    refine tk 4 (some 114) ?_
                    (try simp only [Act.put, p0, p1, p2])
                    refine tk 5 (some 115) ?_
                    (try simp only [Act.put, p0, p1, p2])
                    refine tk 6 (some 116) ?_
                    (try simp only [Act.put, p0, p1, p2])
                    refine wpAnyH_ready (rs := [3]) (by kernel_rfl) (by simp) ?_
                    refine AllReadyH.cons (o := _) rfl (fun kC hkC => ?_) AllReadyH.nil
                    go_simp
                    (first | (go_at_call 14; (with_reducible refine ((VD _).out).mono ?_); rintro e w1 ⟨rfl, hb⟩; have K1 := sat.grown (show sat _ _ _ from by first | exact K.out | exact K.out.drew) hb; clear hb; have K2 := Lib.hid K1; clear K1 K; (try clear a0); (try clear l0); (try clear f0); (try clear a1); (try clear l1); (try clear f1); (try clear a2); (try clear l2); (try clear f2); (try clear a3); (try clear l3); (try clear f3); (try clear a4); (try clear l4); (try clear f4); (try clear a5); (try clear l5); (try clear f5); have K := K2; clear K2; (try have a0 := K.out.rd 0 rfl); (try have l0 := K.out.ltp 0 rfl); (try have f0 := K.out.fr 0 rfl); (try have a1 := K.out.rd 1 rfl); (try have l1 := K.out.ltp 1 rfl); (try have f1 := K.out.fr 1 rfl); (try have a2 := K.out.rd 2 rfl); (try have l2 := K.out.ltp 2 rfl); (try have f2 := K.out.fr 2 rfl); (try have a3 := K.out.rd 3 rfl); (try have l3 := K.out.ltp 3 rfl); (try have f3 := K.out.fr 3 rfl)) | (go_at_call 24; (with_reducible refine ((SC2 gn _ _ ((show sat E _ _ from by first | exact K.out | exact K.out.drew).pick 4 rfl)).out).mono ?_); rintro e w1 ⟨rfl, K1⟩; replace K1 := (((K1.pick 4 rfl).pick 4 rfl).pick 4 rfl).pick 4 rfl; have K2 := Lib.hid K1; clear K1 K; (try clear a0); (try clear l0); (try clear f0); (try clear a1); (try clear l1); (try clear f1); (try clear a2); (try clear l2); (try clear f2); (try clear a3); (try clear l3); (try clear f3); (try clear a4); (try clear l4); (try clear f4); (try clear a5); (try clear l5); (try clear f5); have K := K2; clear K2; (try have a0 := K.out.rd 0 rfl); (try have l0 := K.out.ltp 0 rfl); (try have f0 := K.out.fr 0 rfl); (try have a1 := K.out.rd 1 rfl); (try have l1 := K.out.ltp 1 rfl); (try have f1 := K.out.fr 1 rfl); (try have a2 := K.out.rd 2 rfl); (try have l2 := K.out.ltp 2 rfl); (try have f2 := K.out.fr 2 rfl); (try have a3 := K.out.rd 3 rfl); (try have l3 := K.out.ltp 3 rfl); (try have f3 := K.out.fr 3 rfl)))
                    refine shown hkC _ _ (by (try dsimp only); (exact ⟨sat.rd 1 (by repeat (with_reducible first | exact K.out | apply sat.alloc_any | apply sat.drew | apply sat.drewN)) rfl, sat.rd 7 (by repeat (with_reducible first | exact K.out | apply sat.alloc_any | apply sat.drew | apply sat.drewN)) rfl⟩)) ?_; clear hkC kC hHeld; intro hHeld
                    (try simp only [Act.put, p0, p1, p2])
                    refine wpAnyH_ready (rs := [7]) (by kernel_rfl) (by simp) ?_
                    refine AllReadyH.cons (o := _) rfl (fun kC hkC => ?_) AllReadyH.nil
                    go_simp
                    (first | (go_at_call 14; (with_reducible refine ((VD _).out).mono ?_); rintro e w1 ⟨rfl, hb⟩; have K1 := sat.grown (show sat _ _ _ from by first | exact K.out | exact K.out.drew) hb; clear hb; have K2 := Lib.hid K1; clear K1 K; (try clear a0); (try clear l0); (try clear f0); (try clear a1); (try clear l1); (try clear f1); (try clear a2); (try clear l2); (try clear f2); (try clear a3); (try clear l3); (try clear f3); (try clear a4); (try clear l4); (try clear f4); (try clear a5); (try clear l5); (try clear f5); have K := K2; clear K2; (try have a0 := K.out.rd 0 rfl); (try have l0 := K.out.ltp 0 rfl); (try have f0 := K.out.fr 0 rfl); (try have a1 := K.out.rd 1 rfl); (try have l1 := K.out.ltp 1 rfl); (try have f1 := K.out.fr 1 rfl); (try have a2 := K.out.rd 2 rfl); (try have l2 := K.out.ltp 2 rfl); (try have f2 := K.out.fr 2 rfl); (try have a3 := K.out.rd 3 rfl); (try have l3 := K.out.ltp 3 rfl); (try have f3 := K.out.fr 3 rfl)) | (go_at_call 24; (with_reducible refine ((SC2 gn _ _ ((show sat E _ _ from by first | exact K.out | exact K.out.drew).pick 4 rfl)).out).mono ?_); rintro e w1 ⟨rfl, K1⟩; replace K1 := (((K1.pick 4 rfl).pick 4 rfl).pick 4 rfl).pick 4 rfl; have K2 := Lib.hid K1; clear K1 K; (try clear a0); (try clear l0); (try clear f0); (try clear a1); (try clear l1); (try clear f1); (try clear a2); (try clear l2); (try clear f2); (try clear a3); (try clear l3); (try clear f3); (try clear a4); (try clear l4); (try clear f4); (try clear a5); (try clear l5); (try clear f5); have K := K2; clear K2; (try have a0 := K.out.rd 0 rfl); (try have l0 := K.out.ltp 0 rfl); (try have f0 := K.out.fr 0 rfl); (try have a1 := K.out.rd 1 rfl); (try have l1 := K.out.ltp 1 rfl); (try have f1 := K.out.fr 1 rfl); (try have a2 := K.out.rd 2 rfl); (try have l2 := K.out.ltp 2 rfl); (try have f2 := K.out.fr 2 rfl); (try have a3 := K.out.rd 3 rfl); (try have l3 := K.out.ltp 3 rfl); (try have f3 := K.out.fr 3 rfl)))
                    refine shown hkC _ _ (by (try dsimp only); (exact ⟨sat.rd 1 (by repeat (with_reducible first | exact K.out | apply sat.alloc_any | apply sat.drew | apply sat.drewN)) rfl, sat.rd 7 (by repeat (with_reducible first | exact K.out | apply sat.alloc_any | apply sat.drew | apply sat.drewN)) rfl⟩)) ?_; clear hkC kC hHeld; intro hHeld
                    (try simp only [Act.put, p0, p1, p2])
                    refine wpAnyH_done (by kernel_rfl) (NoPanic.normal ?_) _
                    all_goals
                      go_wp2_with fail
                      go_roundg gk3
                      case measure => omega
                      case rel => exact ⟨2, by omega, by first | rfl | (simp; done) | (simp; exact w64 (by omega) (by omega)), by first | exact K.out | exact K.out.drew⟩
                  · have K1 : sat E wr [getA gg (S j).1, memA gm m2, memA gn m2, snapA ga (S j).1.snap, takeO tv (S j).1.take, confG gc c] := K.out.drop.drop
                    clear K
                    have K := Lib.hid K1
                    clear K1
                    go_wp2_with fail
                    go_roundg gk2
                    case measure => omega
                    case rel => exact ⟨n + 1, by have := HN.out; omega, by first | (simp; done) | (simp; exact w64 (by omega) (by omega)), by rw [HTK.out]; exact K.out⟩
              · have e0 : (T.at_ == (j : Int)) = false := by simpa using hq
                rw [show turnI c (j : Int) (turnsM c j (ts.take n) mj) T = turnsM c j (ts.take n) mj from if_neg hq] at hTk
                have HTK := Lib.hid hTk
                clear hq hTk
                generalize turnsM c j (ts.take n) mj = mt at *
                go_wp2_with fail
                go_roundg gk2
                case measure => omega
                case rel => exact ⟨n + 1, by have := HN.out; omega, by first | (simp; done) | (simp; exact w64 (by omega) (by omega)), by rw [HTK.out]; exact K.out.alloc_any _⟩
            · have d1 : decide (n < ts.length) = false := by simpa using hlt
              have hnl : n = ts.length := by omega
              subst hnl
              rw [List.take_length] at K
              have hS := ZS.out j
              rw [← HMJ.out] at hS
              have hok := HOK.out
              have hmz := turnsM_ok c (j : Int) ts (m := mj) (by rw [HMJ.out]; exact hok.wf) HTS.out
              have hmzw := hmz.1
              have hmzl : (turnsM c j ts mj).log.length ≤ 100000 := by
                have h1 := hmz.2
                have h2 := hok.log
                rw [← HMJ.out] at h2
                omega
              clear hn hlt HOK HMJ ZS
              generalize turnsM c (j : Int) ts mj = mz at *
              generalize hgj : (S j).1 = g at *
              have hokg := hok.okn
              rw [hgj] at hokg
              have hcg := hok.conf
              have hwg := hok.who
              have hsg := hok.start
              have hfg := hok.fin
              rw [hgj] at hcg hwg hsg hfg
              have hpn := hokg.pass
              have htn := hokg.tries
              have ht0 := hokg.ok.tries0
              have GSc := fun w' (M : List SA) (h : sat E w' (getA gg g :: memA gm mz :: M)) => Lib.hid (gstep_calls gg gm g mz hokg.ok (by omega) (by omega) (by omega) h)
              have CTA := fun w' b mm (M : List SA) (h : sat E w' (memA b mm :: M)) => Lib.hid (count_calls b mm h)
              have GTA := fun w' b gz (M : List SA) (h : sat E w' (getA b gz :: M)) => Lib.hid (gtries_calls b gz h)
              have GVA := fun w' b gz (M : List SA) (h : sat E w' (getA b gz :: M)) => Lib.hid (gvalue_calls b gz h)
              clear hok hgj hmz hml
              by_cases hp : g.phase = 0
              · have qf1 : (g.phase != 0) = false := by simp [hp]
                cases ht : g.take with
                | none =>
                  rw [ht] at K
                  obtain ⟨hv, K1⟩ := takeO_none (K.out.pick 4 rfl)
                  subst hv
                  have K2 : sat E wr [getA gg g, memA gm mz, memA gn mz, snapA ga g.snap, confG gc c] := K1
                  clear K K1
                  have K := Lib.hid K2
                  clear K2
                  have SSc := fun w' (M : List SA) (h : sat E w' (snapA ga g.snap :: memA gn mz :: M)) => Lib.hid (sstep_calls ga gn g.snap mz hokg.ok.snap (by omega) h)
                  have e := GetM.step_none (m := mz) hp ht
                  (try dsimp only at e)
                  by_cases hs1 : (g.snap.step mz).1.phase = 1
                  · have qf2 : ((g.snap.step mz).1.phase == 1) = true := by simpa using hs1
                    rw [if_pos hs1] at e
                    have hk := GetM.step_kept (m := mz) hokg (by omega) (by omega) hmzw
                    rw [e] at hk
                    have hso := hk.okn.ok.snap
                    have hws := hk.okn.ok.words
                    rw [chosen_snap] at hso hws
                    have hl4 : (g.snap.step mz).1.words.length ≤ 4096 := by
                      have h1 := hso.len
                      have h2 := hso.conf.all_bd
                      dsimp only at h1 h2
                      omega
                    generalize g.snap.step mz = s1 at *
                    have WCs := fun w' (M : List SA) (h : sat E w' (snapA ga s1.1 :: M)) => Lib.hid (swords_calls ga s1.1 hs1 hl4 h)
                    have RWc := fun w' gw (M : List SA) (h : sat E w' (u64A gw s1.1.words :: M)) => Lib.hid (rowG_call (Nat.le_trans hl4 (by decide)) hws h)
                    have ech : ({ g with snap := s1.1 } : GetM).chosen = (if atM s1.1.words g.fin < 0 then ({ g with snap := s1.1, phase := 2 } : GetM) else { g with snap := s1.1, take := some (TakeM.new g.conf g.who (atM s1.1.words g.fin) (getI s1.1.words (atM s1.1.words g.fin))) }) := rfl
                    have har := atM_range s1.1.words g.fin
                    have qf3 : (g.phase != g.phase) = false := by simp
                    have qf4 : (g.tries != g.tries) = false := by simp
                    have qf5 : (g.value != g.value) = false := by simp
                    have HT := Lib.hid ht
                    clear hk hso hws
                    rcases har with ⟨ho, ha⟩ | ⟨ho, ha0, ha1, ha2⟩
                    · as_aux_lemma =>
                      rw [ech, if_pos (by omega)] at e
                      rw [e] at hS
                      simp only [e] at GSc
                      have zo : (((orderM s1.1.words).length : Int) == 0) = true := by rw [ho]; rfl
                      have HS := Lib.hid hS
                      have PZ := Lib.hid (show (Value.int .i64 2) = .int .i64 (S (j + 1)).1.phase by rw [hS])
                      have PH := PZ
                      have TR := Lib.hid (show (Value.int .i64 g.tries) = .int .i64 (S (j + 1)).1.tries by rw [hS])
                      have VA := Lib.hid (show (Value.int .u64 g.value) = .int .u64 (S (j + 1)).1.value by rw [hS])
                      clear e hS hs1 ht hpn htn ht0 hokg hcg hwg hsg hfg hmzl hmzw ech ho ha
                      go_wp2_with (first | (go_at_call 30; (with_reducible refine ((SSc _ _ (((show sat E _ _ from by iterate 6 (try (with_reducible first | exact K.out | apply sat.alloc_any | apply sat.drew | apply sat.drewN))).pick 2 rfl).pick 3 rfl)).out).mono ?_); rintro e w1 ⟨rfl, K1⟩; replace K1 := (show sat E w1 [getA gg g, memA gm mz, memA gn s1.2, snapA ga s1.1, confG gc c] from ((K1.pick 1 rfl).pick 3 rfl).pick 3 rfl); have K2 := Lib.hid K1; clear K1 K; (try clear a0); (try clear l0); (try clear a1); (try clear l1); (try clear a2); (try clear l2); have K := K2; clear K2) | (go_at_call 31; (with_reducible refine ((WCs _ _ ((show sat E _ _ from by iterate 6 (try (with_reducible first | exact K.out | apply sat.alloc_any | apply sat.drew | apply sat.drewN))).pick 3 rfl)).out).mono ?_); rintro e w1 ⟨gw, rfl, K1⟩; have K2 := Lib.hid K1; clear K1 K; (try clear a0); (try clear l0); (try clear a1); (try clear l1); (try clear a2); (try clear l2); have K := K2; clear K2) | ((go_at_call 11; (with_reducible refine ((RWc _ gw _ (show sat E _ _ from by iterate 6 (try (with_reducible first | exact K.out | apply sat.alloc_any | apply sat.drew | apply sat.drewN)))).out).mono ?_); rintro e w1 ⟨pr, cr, rfl, K1⟩; have K2 := Lib.hid K1; clear K1 K; (try clear a0); (try clear l0); (try clear a1); (try clear l1); (try clear a2); (try clear l2); have K := K2; clear K2); have K1 : sat E w1 [getA gg g, memA gm mz, memA gn s1.2, snapA ga s1.1, confG gc c] := ((K.out.drop.drop.pick 3 rfl).pick 3 rfl).pick 3 rfl; clear K; have K := Lib.hid K1; clear K1) | (go_at_call 18; (with_reducible refine ((GSc _ _ (show sat E _ _ from by iterate 6 (try (with_reducible first | exact K.out | apply sat.alloc_any | apply sat.drew | apply sat.drewN)))).out).mono ?_); rintro e w1 ⟨rfl, K1⟩; have K2 := Lib.hid K1; clear K1 K; (try clear a0); (try clear l0); (try clear a1); (try clear l1); (try clear a2); (try clear l2); have K := K2; clear K2) | (go_at_call 35; (first | (with_reducible refine (CTA _ _ _ _ (K.out.pick 1 rfl)).out.mono ?_) | (with_reducible refine (CTA _ _ _ _ (K.out.pick 2 rfl)).out.mono ?_)); rintro e w1 ⟨rfl, rfl⟩) | (go_at_call 27; (with_reducible refine (GTA _ _ _ _ K.out).out.mono ?_); rintro e w1 ⟨rfl, rfl⟩) | (go_at_call 19; (with_reducible refine (GVA _ _ _ _ K.out).out.mono ?_); rintro e w1 ⟨rfl, rfl⟩))
                      go_roundg gk'
                      case measure => omega
                      case rel => exact ⟨j + 1, ga, _, by have := HJ.out; omega, by first | (simp; done) | (simp; exact w64 (by omega) (by omega)), rfl, rfl, (by first | rfl | exact PH.out | exact PZ.out), (by first | rfl | exact TR.out), (by first | rfl | exact VA.out), by rw [HS.out]; have KT := takeO_mk K.out; rw [← HT.out] at KT; exact ((((KT.pick 4 rfl).pick 4 rfl).pick 4 rfl).pick 4 rfl)⟩
                    · rw [ech, if_neg (by omega)] at e
                      rw [e] at hS
                      simp only [e] at GSc
                      obtain ⟨o0, hoo, hop, hoL, hoR⟩ := order_ends ha0
                      have zo : (((orderM s1.1.words).length : Int) == 0) = false := by rw [beq_eq_false_iff_ne]; omega
                      have olen := orderM_len s1.1.words
                      have wl2 : IntKind.i64.wrap (((orderM s1.1.words).length : Int) - 1) = (((orderM s1.1.words).length - 1 : Nat) : Int) := by rw [wi (by omega) (by omega)]; omega
                      have wl3 : (orderM s1.1.words).length - 1 < (orderM s1.1.words).length := by omega
                      have TNc := fun w' (M : List SA) (h : sat E w' M) => Lib.hid (takenew_calls c wh (atM s1.1.words g.fin) (getI s1.1.words (atM s1.1.words g.fin)) h)
                      have hHX2 := Lib.hid (show (u64s s1.1.words)[(atM s1.1.words g.fin).toNat]? = some (.int .u64 (getI s1.1.words (atM s1.1.words g.fin))) from getD_cell ha0 ha1)
                      have HHC := Lib.hid (And.intro hcg hwg)
                      have HS := Lib.hid hS
                      have PZ := Lib.hid (show (Value.int .i64 0) = .int .i64 (S (j + 1)).1.phase by rw [hS]; show _ = Value.int .i64 g.phase; rw [hp])
                      have PH := PZ
                      have TR := Lib.hid (show (Value.int .i64 g.tries) = .int .i64 (S (j + 1)).1.tries by rw [hS])
                      have VA := Lib.hid (show (Value.int .u64 g.value) = .int .u64 (S (j + 1)).1.value by rw [hS])
                      have hl5 : s1.1.words.length ≤ 4096 := hl4
                      rw [hfg] at *
                      clear e hS hs1 ht hpn htn ht0 hokg hcg hwg hsg hmzl hmzw ech ho ha2
                      rcases Bool.eq_false_or_eq_true right with hr | hr
                      · as_aux_lemma =>
                        subst hr
                        have hol := hoR (by decide)
                        have HX1 := Lib.hid (show ((orderM s1.1.words).map (Value.int .i64))[(orderM s1.1.words).length - 1]? = some (.int .i64 (atM s1.1.words (endM true))) by rw [List.getElem?_map, hol]; rfl)
                        clear hoo hoL hoR hol
                        generalize getI s1.1.words (atM s1.1.words (endM true)) = wx at *
                        generalize atM s1.1.words (endM true) = sl at *
                        go_wp2_with (first | (go_at_call 30; (with_reducible refine ((SSc _ _ (((show sat E _ _ from by iterate 6 (try (with_reducible first | exact K.out | apply sat.alloc_any | apply sat.drew | apply sat.drewN))).pick 2 rfl).pick 3 rfl)).out).mono ?_); rintro e w1 ⟨rfl, K1⟩; replace K1 := (show sat E w1 [getA gg g, memA gm mz, memA gn s1.2, snapA ga s1.1, confG gc c] from ((K1.pick 1 rfl).pick 3 rfl).pick 3 rfl); have K2 := Lib.hid K1; clear K1 K; (try clear a0); (try clear l0); (try clear a1); (try clear l1); (try clear a2); (try clear l2); have K := K2; clear K2; have a4 := K.out.rd 4 rfl; have l4 := K.out.ltp 4 rfl) | (go_at_call 31; (with_reducible refine ((WCs _ _ ((show sat E _ _ from by iterate 6 (try (with_reducible first | exact K.out | apply sat.alloc_any | apply sat.drew | apply sat.drewN))).pick 3 rfl)).out).mono ?_); rintro e w1 ⟨gw, rfl, K1⟩; have K2 := Lib.hid K1; clear K1 K; (try clear a0); (try clear l0); (try clear a1); (try clear l1); (try clear a2); (try clear l2); have K := K2; clear K2; have a5 := K.out.rd 5 rfl; have l5 := K.out.ltp 5 rfl) | (go_at_call 11; (with_reducible refine ((RWc _ gw _ (show sat E _ _ from by iterate 6 (try (with_reducible first | exact K.out | apply sat.alloc_any | apply sat.drew | apply sat.drewN)))).out).mono ?_); rintro e w1 ⟨pr, cr, rfl, K1⟩; have K2 := Lib.hid K1; clear K1 K; (try clear a0); (try clear l0); (try clear a1); (try clear l1); (try clear a2); (try clear l2); have K := K2; clear K2; have a6 := K.out.rd 6 rfl; have l6 := K.out.ltp 6 rfl))
                        obtain ⟨gr, hgr, _⟩ := Go.SepYtdhcomklmckhoaa.row_some K.out hop
                        subst hgr
                        refine wp_region_noPanic ?_
                        refine wp_region_held_drew (S := (fun w' => w'.cell? ⟨gr, (orderM s1.1.words).length - 1, none⟩ = some (.int .i64 sl) ∧ w'.cell? ⟨gw, sl.toNat, none⟩ = some (.int .u64 wx) ∧ (∀ q, w'.cell? ⟨gc, q, none⟩ = ([.int .i64 c.th, .int .i64 c.sl, .int .i64 c.src, .int .i64 c.dl] : List Value)[q]?))) (by kernel_rfl) ?_ (fun hHeld => ?_)
                        · ((try dsimp only); (first | exact ⟨sat.row_rd 0 (by repeat (with_reducible first | exact K.out | apply sat.alloc_any | apply sat.drew | apply sat.drewN)) rfl ((orderM s1.1.words).length - 1) _ HX1.out, Eq.trans (sat.rd 1 (by repeat (with_reducible first | exact K.out | apply sat.alloc_any | apply sat.drew | apply sat.drewN)) rfl sl.toNat) (by simpa using hHX2.out), sat.rd 6 (by repeat (with_reducible first | exact K.out | apply sat.alloc_any | apply sat.drew | apply sat.drewN)) rfl⟩ | exact ⟨sat.row_rd 1 (by repeat (with_reducible first | exact K.out | apply sat.alloc_any | apply sat.drew | apply sat.drewN)) rfl ((orderM s1.1.words).length - 1) _ HX1.out, Eq.trans (sat.rd 2 (by repeat (with_reducible first | exact K.out | apply sat.alloc_any | apply sat.drew | apply sat.drewN)) rfl sl.toNat) (by simpa using hHX2.out), sat.rd 7 (by repeat (with_reducible first | exact K.out | apply sat.alloc_any | apply sat.drew | apply sat.drewN)) rfl⟩))
                        refine tk 0 (some 167) ?_
                        (try simp only [Act.put, p0, p1, p2])
                        refine tk 1 (some 168) ?_
                        (try simp only [Act.put, p0, p1, p2])
                        refine tk 2 (some 169) ?_
                        (try simp only [Act.put, p0, p1, p2])
                        refine tk 3 (some 170) ?_
                        (try simp only [Act.put, p0, p1, p2])
                        refine tk 4 (some 171) ?_
                        (try simp only [Act.put, p0, p1, p2])
                        refine tk 5 (some 172) ?_
                        (try simp only [Act.put, p0, p1, p2])
                        refine tk 6 (some 173) ?_
                        (try simp only [Act.put, p0, p1, p2])
                        refine tk 7 (some 174) ?_
                        (try simp only [Act.put, p0, p1, p2])
                        refine tk 8 (some 175) ?_
                        (try simp only [Act.put, p0, p1, p2])
                        refine tk 9 (some 176) ?_
                        (try simp only [Act.put, p0, p1, p2])
                        refine tk 10 (some 177) ?_
                        (try simp only [Act.put, p0, p1, p2])
                        refine tk 11 (some 178) ?_
                        (try simp only [Act.put, p0, p1, p2])
                        refine tk 12 (some 179) ?_
                        (try simp only [Act.put, p0, p1, p2])
                        refine tk 13 (some 180) ?_
                        (try simp only [Act.put, p0, p1, p2])
                        refine tk 14 (some 181) ?_
                        (try simp only [Act.put, p0, p1, p2])
                        refine tk 15 (some 182) ?_
                        (try simp only [Act.put, p0, p1, p2])
                        refine tk 16 (some 183) ?_
                        (try simp only [Act.put, p0, p1, p2])
                        refine wpAnyH_ready (rs := [17]) (by kernel_rfl) (by simp) ?_
                        refine AllReadyH.cons (o := _) rfl (fun kC hkC => ?_) AllReadyH.nil
                        go_simp
                        (go_at_call 32; (with_reducible refine ((TNc _ _ (show sat E _ _ from by first | exact K.out | exact K.out.drew)).out).mono ?_); rintro e w1 ⟨tb, rfl, K1⟩; have K2 := Lib.hid K1; clear K1 K; (try clear a0); (try clear l0); (try clear f0); (try clear a1); (try clear l1); (try clear f1); (try clear a2); (try clear l2); (try clear f2); (try clear a3); (try clear l3); (try clear f3); (try clear a4); (try clear l4); (try clear f4); (try clear a5); (try clear l5); (try clear f5); have K := K2; clear K2; (try have a0 := K.out.rd 0 rfl); (try have l0 := K.out.ltp 0 rfl); (try have f0 := K.out.fr 0 rfl); (try have a1 := K.out.rd 1 rfl); (try have l1 := K.out.ltp 1 rfl); (try have f1 := K.out.fr 1 rfl); (try have a2 := K.out.rd 2 rfl); (try have l2 := K.out.ltp 2 rfl); (try have f2 := K.out.fr 2 rfl); (try have a3 := K.out.rd 3 rfl); (try have l3 := K.out.ltp 3 rfl); (try have f3 := K.out.fr 3 rfl))
                        refine shown hkC _ _ (by (try dsimp only); (first | exact ⟨sat.row_rd 0 (by repeat (with_reducible first | exact K.out | apply sat.alloc_any | apply sat.drew | apply sat.drewN)) rfl ((orderM s1.1.words).length - 1) _ HX1.out, Eq.trans (sat.rd 1 (by repeat (with_reducible first | exact K.out | apply sat.alloc_any | apply sat.drew | apply sat.drewN)) rfl sl.toNat) (by simpa using hHX2.out), sat.rd 6 (by repeat (with_reducible first | exact K.out | apply sat.alloc_any | apply sat.drew | apply sat.drewN)) rfl⟩ | exact ⟨sat.row_rd 1 (by repeat (with_reducible first | exact K.out | apply sat.alloc_any | apply sat.drew | apply sat.drewN)) rfl ((orderM s1.1.words).length - 1) _ HX1.out, Eq.trans (sat.rd 2 (by repeat (with_reducible first | exact K.out | apply sat.alloc_any | apply sat.drew | apply sat.drewN)) rfl sl.toNat) (by simpa using hHX2.out), sat.rd 7 (by repeat (with_reducible first | exact K.out | apply sat.alloc_any | apply sat.drew | apply sat.drewN)) rfl⟩)) ?_; clear hkC kC hHeld; intro hHeld
                        (try simp only [Act.put, p0, p1, p2])
                        refine tk 18 (some 20) ?_
                        (try simp only [Act.put, p0, p1, p2])
                        refine wpAnyH_done (by kernel_rfl) (NoPanic.normal ?_) _
                        clear hHeld
                        have K1 : sat E w1 [getA gg g, memA gm mz, memA gn s1.2, snapA ga s1.1, takeA tb (TakeM.new g.conf g.who sl wx), confG gc c] := by rw [HHC.out.1, HHC.out.2]; exact ((((K.out.pick 1 rfl).drop.pick 1 rfl).drop.pick 1 rfl).pick 4 rfl |>.pick 4 rfl).pick 4 rfl
                        clear K
                        have K := Lib.hid K1
                        clear K1
                        go_wp2_with (first | (go_at_call 18; (with_reducible refine ((GSc _ _ (show sat E _ _ from by iterate 6 (try (with_reducible first | exact K.out | apply sat.alloc_any | apply sat.drew | apply sat.drewN)))).out).mono ?_); rintro e w1 ⟨rfl, K1⟩; have K2 := Lib.hid K1; clear K1 K; (try clear a0); (try clear l0); (try clear a1); (try clear l1); (try clear a2); (try clear l2); have K := K2; clear K2) | (go_at_call 35; (first | (with_reducible refine (CTA _ _ _ _ (K.out.pick 1 rfl)).out.mono ?_) | (with_reducible refine (CTA _ _ _ _ (K.out.pick 2 rfl)).out.mono ?_)); rintro e w1 ⟨rfl, rfl⟩) | (go_at_call 27; (with_reducible refine (GTA _ _ _ _ K.out).out.mono ?_); rintro e w1 ⟨rfl, rfl⟩) | (go_at_call 19; (with_reducible refine (GVA _ _ _ _ K.out).out.mono ?_); rintro e w1 ⟨rfl, rfl⟩))
                        go_roundg gk'
                        case measure => omega
                        case rel => exact ⟨j + 1, ga, _, by have := HJ.out; omega, by first | (simp; done) | (simp; exact w64 (by omega) (by omega)), rfl, rfl, (by first | rfl | exact PH.out | exact PZ.out), (by first | rfl | exact TR.out), (by first | rfl | exact VA.out), by rw [HS.out]; have KT := takeO_put (K.out.pick 4 rfl); exact ((((KT.pick 4 rfl).pick 4 rfl).pick 4 rfl).pick 4 rfl)⟩
                      · as_aux_lemma =>
                        subst hr
                        have hol := hoL (by decide)
                        have HX1 := Lib.hid (show ((orderM s1.1.words).map (Value.int .i64))[0]? = some (.int .i64 (atM s1.1.words (endM false))) by rw [List.getElem?_map, hoo, hol]; rfl)
                        clear hoo hoL hoR hol
                        generalize getI s1.1.words (atM s1.1.words (endM false)) = wx at *
                        generalize atM s1.1.words (endM false) = sl at *
                        go_wp2_with (first | (go_at_call 30; (with_reducible refine ((SSc _ _ (((show sat E _ _ from by iterate 6 (try (with_reducible first | exact K.out | apply sat.alloc_any | apply sat.drew | apply sat.drewN))).pick 2 rfl).pick 3 rfl)).out).mono ?_); rintro e w1 ⟨rfl, K1⟩; replace K1 := (show sat E w1 [getA gg g, memA gm mz, memA gn s1.2, snapA ga s1.1, confG gc c] from ((K1.pick 1 rfl).pick 3 rfl).pick 3 rfl); have K2 := Lib.hid K1; clear K1 K; (try clear a0); (try clear l0); (try clear a1); (try clear l1); (try clear a2); (try clear l2); have K := K2; clear K2; have a4 := K.out.rd 4 rfl; have l4 := K.out.ltp 4 rfl) | (go_at_call 31; (with_reducible refine ((WCs _ _ ((show sat E _ _ from by iterate 6 (try (with_reducible first | exact K.out | apply sat.alloc_any | apply sat.drew | apply sat.drewN))).pick 3 rfl)).out).mono ?_); rintro e w1 ⟨gw, rfl, K1⟩; have K2 := Lib.hid K1; clear K1 K; (try clear a0); (try clear l0); (try clear a1); (try clear l1); (try clear a2); (try clear l2); have K := K2; clear K2; have a5 := K.out.rd 5 rfl; have l5 := K.out.ltp 5 rfl) | (go_at_call 11; (with_reducible refine ((RWc _ gw _ (show sat E _ _ from by iterate 6 (try (with_reducible first | exact K.out | apply sat.alloc_any | apply sat.drew | apply sat.drewN)))).out).mono ?_); rintro e w1 ⟨pr, cr, rfl, K1⟩; have K2 := Lib.hid K1; clear K1 K; (try clear a0); (try clear l0); (try clear a1); (try clear l1); (try clear a2); (try clear l2); have K := K2; clear K2; have a6 := K.out.rd 6 rfl; have l6 := K.out.ltp 6 rfl))
                        obtain ⟨gr, hgr, _⟩ := Go.SepYtdhcomklmckhoaa.row_some K.out hop
                        subst hgr
                        refine wp_region_noPanic ?_
                        refine wp_region_held_drew (S := (fun w' => w'.cell? ⟨gr, 0, none⟩ = some (.int .i64 sl) ∧ w'.cell? ⟨gw, sl.toNat, none⟩ = some (.int .u64 wx) ∧ (∀ q, w'.cell? ⟨gc, q, none⟩ = ([.int .i64 c.th, .int .i64 c.sl, .int .i64 c.src, .int .i64 c.dl] : List Value)[q]?))) (by kernel_rfl) ?_ (fun hHeld => ?_)
                        · ((try dsimp only); (first | exact ⟨sat.row_rd 0 (by repeat (with_reducible first | exact K.out | apply sat.alloc_any | apply sat.drew | apply sat.drewN)) rfl (0) _ HX1.out, Eq.trans (sat.rd 1 (by repeat (with_reducible first | exact K.out | apply sat.alloc_any | apply sat.drew | apply sat.drewN)) rfl sl.toNat) (by simpa using hHX2.out), sat.rd 6 (by repeat (with_reducible first | exact K.out | apply sat.alloc_any | apply sat.drew | apply sat.drewN)) rfl⟩ | exact ⟨sat.row_rd 1 (by repeat (with_reducible first | exact K.out | apply sat.alloc_any | apply sat.drew | apply sat.drewN)) rfl (0) _ HX1.out, Eq.trans (sat.rd 2 (by repeat (with_reducible first | exact K.out | apply sat.alloc_any | apply sat.drew | apply sat.drewN)) rfl sl.toNat) (by simpa using hHX2.out), sat.rd 7 (by repeat (with_reducible first | exact K.out | apply sat.alloc_any | apply sat.drew | apply sat.drewN)) rfl⟩))
                        refine tk 0 (some 149) ?_
                        (try simp only [Act.put, p0, p1, p2])
                        refine tk 1 (some 150) ?_
                        (try simp only [Act.put, p0, p1, p2])
                        refine tk 2 (some 151) ?_
                        (try simp only [Act.put, p0, p1, p2])
                        refine tk 3 (some 152) ?_
                        (try simp only [Act.put, p0, p1, p2])
                        refine tk 4 (some 153) ?_
                        (try simp only [Act.put, p0, p1, p2])
                        refine tk 5 (some 154) ?_
                        (try simp only [Act.put, p0, p1, p2])
                        refine tk 6 (some 155) ?_
                        (try simp only [Act.put, p0, p1, p2])
                        refine tk 7 (some 156) ?_
                        (try simp only [Act.put, p0, p1, p2])
                        refine tk 8 (some 157) ?_
                        (try simp only [Act.put, p0, p1, p2])
                        refine tk 9 (some 158) ?_
                        (try simp only [Act.put, p0, p1, p2])
                        refine tk 10 (some 159) ?_
                        (try simp only [Act.put, p0, p1, p2])
                        refine wpAnyH_ready (rs := [11]) (by kernel_rfl) (by simp) ?_
                        refine AllReadyH.cons (o := _) rfl (fun kC hkC => ?_) AllReadyH.nil
                        go_simp
                        (go_at_call 32; (with_reducible refine ((TNc _ _ (show sat E _ _ from by first | exact K.out | exact K.out.drew)).out).mono ?_); rintro e w1 ⟨tb, rfl, K1⟩; have K2 := Lib.hid K1; clear K1 K; (try clear a0); (try clear l0); (try clear f0); (try clear a1); (try clear l1); (try clear f1); (try clear a2); (try clear l2); (try clear f2); (try clear a3); (try clear l3); (try clear f3); (try clear a4); (try clear l4); (try clear f4); (try clear a5); (try clear l5); (try clear f5); have K := K2; clear K2; (try have a0 := K.out.rd 0 rfl); (try have l0 := K.out.ltp 0 rfl); (try have f0 := K.out.fr 0 rfl); (try have a1 := K.out.rd 1 rfl); (try have l1 := K.out.ltp 1 rfl); (try have f1 := K.out.fr 1 rfl); (try have a2 := K.out.rd 2 rfl); (try have l2 := K.out.ltp 2 rfl); (try have f2 := K.out.fr 2 rfl); (try have a3 := K.out.rd 3 rfl); (try have l3 := K.out.ltp 3 rfl); (try have f3 := K.out.fr 3 rfl))
                        refine shown hkC _ _ (by (try dsimp only); (first | exact ⟨sat.row_rd 0 (by repeat (with_reducible first | exact K.out | apply sat.alloc_any | apply sat.drew | apply sat.drewN)) rfl (0) _ HX1.out, Eq.trans (sat.rd 1 (by repeat (with_reducible first | exact K.out | apply sat.alloc_any | apply sat.drew | apply sat.drewN)) rfl sl.toNat) (by simpa using hHX2.out), sat.rd 6 (by repeat (with_reducible first | exact K.out | apply sat.alloc_any | apply sat.drew | apply sat.drewN)) rfl⟩ | exact ⟨sat.row_rd 1 (by repeat (with_reducible first | exact K.out | apply sat.alloc_any | apply sat.drew | apply sat.drewN)) rfl (0) _ HX1.out, Eq.trans (sat.rd 2 (by repeat (with_reducible first | exact K.out | apply sat.alloc_any | apply sat.drew | apply sat.drewN)) rfl sl.toNat) (by simpa using hHX2.out), sat.rd 7 (by repeat (with_reducible first | exact K.out | apply sat.alloc_any | apply sat.drew | apply sat.drewN)) rfl⟩)) ?_; clear hkC kC hHeld; intro hHeld
                        (try simp only [Act.put, p0, p1, p2])
                        refine tk 12 (some 20) ?_
                        (try simp only [Act.put, p0, p1, p2])
                        refine wpAnyH_done (by kernel_rfl) (NoPanic.normal ?_) _
                        clear hHeld
                        have K1 : sat E w1 [getA gg g, memA gm mz, memA gn s1.2, snapA ga s1.1, takeA tb (TakeM.new g.conf g.who sl wx), confG gc c] := by rw [HHC.out.1, HHC.out.2]; exact ((((K.out.pick 1 rfl).drop.pick 1 rfl).drop.pick 1 rfl).pick 4 rfl |>.pick 4 rfl).pick 4 rfl
                        clear K
                        have K := Lib.hid K1
                        clear K1
                        go_wp2_with (first | (go_at_call 18; (with_reducible refine ((GSc _ _ (show sat E _ _ from by iterate 6 (try (with_reducible first | exact K.out | apply sat.alloc_any | apply sat.drew | apply sat.drewN)))).out).mono ?_); rintro e w1 ⟨rfl, K1⟩; have K2 := Lib.hid K1; clear K1 K; (try clear a0); (try clear l0); (try clear a1); (try clear l1); (try clear a2); (try clear l2); have K := K2; clear K2) | (go_at_call 35; (first | (with_reducible refine (CTA _ _ _ _ (K.out.pick 1 rfl)).out.mono ?_) | (with_reducible refine (CTA _ _ _ _ (K.out.pick 2 rfl)).out.mono ?_)); rintro e w1 ⟨rfl, rfl⟩) | (go_at_call 27; (with_reducible refine (GTA _ _ _ _ K.out).out.mono ?_); rintro e w1 ⟨rfl, rfl⟩) | (go_at_call 19; (with_reducible refine (GVA _ _ _ _ K.out).out.mono ?_); rintro e w1 ⟨rfl, rfl⟩))
                        go_roundg gk'
                        case measure => omega
                        case rel => exact ⟨j + 1, ga, _, by have := HJ.out; omega, by first | (simp; done) | (simp; exact w64 (by omega) (by omega)), rfl, rfl, (by first | rfl | exact PH.out | exact PZ.out), (by first | rfl | exact TR.out), (by first | rfl | exact VA.out), by rw [HS.out]; have KT := takeO_put (K.out.pick 4 rfl); exact ((((KT.pick 4 rfl).pick 4 rfl).pick 4 rfl).pick 4 rfl)⟩
                  · as_aux_lemma =>
                    have qf2 : ((g.snap.step mz).1.phase == 1) = false := by simpa using hs1
                    rw [if_neg hs1] at e
                    rw [e] at hS
                    simp only [e] at GSc
                    generalize g.snap.step mz = s1 at *
                    have qf3 : (g.phase != g.phase) = false := by simp
                    have qf4 : (g.tries != g.tries) = false := by simp
                    have qf5 : (g.value != g.value) = false := by simp
                    have HS := Lib.hid hS
                    have HT := Lib.hid ht
                    have PH := Lib.hid (show (Value.int .i64 g.phase) = .int .i64 (S (j + 1)).1.phase by rw [hS])
                    have TR := Lib.hid (show (Value.int .i64 g.tries) = .int .i64 (S (j + 1)).1.tries by rw [hS])
                    have VA := Lib.hid (show (Value.int .u64 g.value) = .int .u64 (S (j + 1)).1.value by rw [hS])
                    have PZ := Lib.hid (show (Value.int .i64 0) = .int .i64 (S (j + 1)).1.phase by rw [hS]; show _ = Value.int .i64 g.phase; rw [hp])
                    skip
                    clear e hS hs1 ht hpn htn ht0 hokg hcg hwg hsg hfg hmzl
                    go_wp2_with (first | (go_at_call 30; (with_reducible refine ((SSc _ _ (((show sat E _ _ from by iterate 6 (try (with_reducible first | exact K.out | apply sat.alloc_any | apply sat.drew | apply sat.drewN))).pick 2 rfl).pick 3 rfl)).out).mono ?_); rintro e w1 ⟨rfl, K1⟩; replace K1 := (show sat E w1 [getA gg g, memA gm mz, memA gn s1.2, snapA ga s1.1, confG gc c] from ((K1.pick 1 rfl).pick 3 rfl).pick 3 rfl); have K2 := Lib.hid K1; clear K1 K; (try clear a0); (try clear l0); (try clear a1); (try clear l1); (try clear a2); (try clear l2); have K := K2; clear K2) | (go_at_call 18; (with_reducible refine ((GSc _ _ (show sat E _ _ from by iterate 6 (try (with_reducible first | exact K.out | apply sat.alloc_any | apply sat.drew | apply sat.drewN)))).out).mono ?_); rintro e w1 ⟨rfl, K1⟩; have K2 := Lib.hid K1; clear K1 K; (try clear a0); (try clear l0); (try clear a1); (try clear l1); (try clear a2); (try clear l2); have K := K2; clear K2) | (go_at_call 35; (first | (with_reducible refine (CTA _ _ _ _ (K.out.pick 1 rfl)).out.mono ?_) | (with_reducible refine (CTA _ _ _ _ (K.out.pick 2 rfl)).out.mono ?_)); rintro e w1 ⟨rfl, rfl⟩) | (go_at_call 27; (with_reducible refine (GTA _ _ _ _ K.out).out.mono ?_); rintro e w1 ⟨rfl, rfl⟩) | (go_at_call 19; (with_reducible refine (GVA _ _ _ _ K.out).out.mono ?_); rintro e w1 ⟨rfl, rfl⟩))
                    go_roundg gk'
                    case measure => omega
                    case rel => exact ⟨j + 1, ga, _, by have := HJ.out; omega, by first | (simp; done) | (simp; exact w64 (by omega) (by omega)), rfl, rfl, (by first | rfl | exact PH.out | exact PZ.out), (by first | rfl | exact TR.out), (by first | rfl | exact VA.out), by rw [HS.out]; have KT := takeO_mk K.out; rw [← HT.out] at KT; exact ((((KT.pick 4 rfl).pick 4 rfl).pick 4 rfl).pick 4 rfl)⟩
                | some t =>
                  rw [ht] at K
                  obtain ⟨tb, hv, K1⟩ := takeO_some (K.out.pick 4 rfl)
                  subst hv
                  have K2 : sat E wr [getA gg g, memA gm mz, memA gn mz, snapA ga g.snap, takeA tb t, confG gc c] := (((K1.pick 4 rfl).pick 4 rfl).pick 4 rfl).pick 4 rfl
                  clear K K1
                  have K := Lib.hid K2
                  clear K2
                  have KSc := fun w' (M : List SA) (h : sat E w' (takeA tb t :: memA gn mz :: M)) => Lib.hid (kstep_calls tb gn t mz (hokg.ok.take t ht) (by omega) h)
                  have e := GetM.step_some (m := mz) hp ht
                  (try dsimp only at e)
                  have hg0s : g0.snap = SnapM.new g.conf g.who g.start := by rw [← HG0.out, hcg, hwg, hsg]; rfl
                  have wtr : wrap64 (g.tries + 1) = g.tries + 1 := w64 (by omega) (by omega)
                  have qf3 : (g.phase != g.phase) = false := by simp
                  have qf4 : (g.tries != g.tries) = false := by simp
                  have qf5 : (g.value != g.value) = false := by simp
                  generalize t.step mz = t1 at *
                  have TVc := fun w' (M : List SA) (h : sat E w' (takeA tb t1.1 :: M)) => Lib.hid (tvalue_calls tb t1.1 h)
                  by_cases q1 : t1.1.phase = 1
                  · as_aux_lemma =>
                    have qf2 : (t1.1.phase == 1) = true := by simpa using q1
                    rw [if_pos q1] at e
                    rw [e] at hS
                    simp only [e] at GSc
                    have qf6 : (t1.1.get != t1.1.get) = false := by simp
                    have HS := Lib.hid hS
                    have PZ := Lib.hid (show (Value.int .i64 1) = .int .i64 (S (j + 1)).1.phase by rw [hS])
                    have PH := PZ
                    have TR := Lib.hid (show (Value.int .i64 g.tries) = .int .i64 (S (j + 1)).1.tries by rw [hS])
                    have VA := Lib.hid (show (Value.int .u64 t1.1.get) = .int .u64 (S (j + 1)).1.value by rw [hS])
                    clear e hS q1 ht hpn htn ht0 hokg hcg hwg hsg hfg hmzl hg0s wtr
                    go_wp2_with (first | (go_at_call 33; (with_reducible refine ((KSc _ _ (((show sat E _ _ from by iterate 6 (try (with_reducible first | exact K.out | apply sat.alloc_any | apply sat.drew | apply sat.drewN))).pick 2 rfl).pick 4 rfl)).out).mono ?_); rintro e w1 ⟨rfl, K1⟩; replace K1 := (show sat E w1 [getA gg g, memA gm mz, memA gn t1.2, snapA ga g.snap, takeA tb t1.1, confG gc c] from (((K1.pick 4 rfl).pick 2 rfl).pick 4 rfl).pick 4 rfl); have K2 := Lib.hid K1; clear K1 K; (try clear a0); (try clear l0); (try clear a1); (try clear l1); (try clear a2); (try clear l2); have K := K2; clear K2) | (go_at_call 34; (with_reducible refine (TVc _ _ (K.out.pick 4 rfl)).out.mono ?_); rintro e w1 ⟨rfl, rfl⟩) | (go_at_call 18; (with_reducible refine ((GSc _ _ (show sat E _ _ from by iterate 6 (try (with_reducible first | exact K.out | apply sat.alloc_any | apply sat.drew | apply sat.drewN)))).out).mono ?_); rintro e w1 ⟨rfl, K1⟩; have K2 := Lib.hid K1; clear K1 K; (try clear a0); (try clear l0); (try clear a1); (try clear l1); (try clear a2); (try clear l2); have K := K2; clear K2) | (go_at_call 35; (first | (with_reducible refine (CTA _ _ _ _ (K.out.pick 1 rfl)).out.mono ?_) | (with_reducible refine (CTA _ _ _ _ (K.out.pick 2 rfl)).out.mono ?_)); rintro e w1 ⟨rfl, rfl⟩) | (go_at_call 27; (with_reducible refine (GTA _ _ _ _ K.out).out.mono ?_); rintro e w1 ⟨rfl, rfl⟩) | (go_at_call 19; (with_reducible refine (GVA _ _ _ _ K.out).out.mono ?_); rintro e w1 ⟨rfl, rfl⟩))
                    go_roundg gk'
                    case measure => omega
                    case rel => exact ⟨j + 1, ga, _, by have := HJ.out; omega, by first | (simp; done) | (simp; exact w64 (by omega) (by omega)), rfl, rfl, (by first | rfl | exact PH.out | exact PZ.out), (by first | rfl | exact TR.out), (by first | rfl | exact VA.out), by rw [HS.out]; have KT := takeO_put (K.out.pick 4 rfl); exact ((((KT.pick 4 rfl).pick 4 rfl).pick 4 rfl).pick 4 rfl)⟩
                  · have qf2 : (t1.1.phase == 1) = false := by simpa using q1
                    rw [if_neg q1] at e
                    by_cases q2 : t1.1.phase = 2
                    · as_aux_lemma =>
                      have qf7 : (t1.1.phase == 2) = true := by simpa using q2
                      rw [if_pos q2] at e
                      rw [e] at hS
                      simp only [e] at GSc
                      rw [hg0s] at SN
                      have qf6 : ((g.tries + 1) != (g.tries + 1)) = false := by simp
                      have HS := Lib.hid hS
                      have PZ := Lib.hid (show (Value.int .i64 0) = .int .i64 (S (j + 1)).1.phase by rw [hS]; show _ = Value.int .i64 g.phase; rw [hp])
                      have PH := PZ
                      have TR := Lib.hid (show (Value.int .i64 (g.tries + 1)) = .int .i64 (S (j + 1)).1.tries by rw [hS])
                      have VA := Lib.hid (show (Value.int .u64 g.value) = .int .u64 (S (j + 1)).1.value by rw [hS])
                      clear e hS q1 q2 ht hpn htn ht0 hokg hcg hwg hsg hfg hmzl hg0s
                      go_wp2_with (first | (go_at_call 33; (with_reducible refine ((KSc _ _ (((show sat E _ _ from by iterate 6 (try (with_reducible first | exact K.out | apply sat.alloc_any | apply sat.drew | apply sat.drewN))).pick 2 rfl).pick 4 rfl)).out).mono ?_); rintro e w1 ⟨rfl, K1⟩; replace K1 := (show sat E w1 [getA gg g, memA gm mz, memA gn t1.2, snapA ga g.snap, takeA tb t1.1, confG gc c] from (((K1.pick 4 rfl).pick 2 rfl).pick 4 rfl).pick 4 rfl); have K2 := Lib.hid K1; clear K1 K; (try clear a0); (try clear l0); (try clear a1); (try clear l1); (try clear a2); (try clear l2); have K := K2; clear K2; have a5 := K.out.rd 5 rfl; have l5 := K.out.ltp 5 rfl) | ((go_at_call 28; (with_reducible refine ((SN _ _ (show sat E _ _ from by iterate 6 (try (with_reducible first | exact K.out | apply sat.alloc_any | apply sat.drew | apply sat.drewN)))).out).mono ?_); rintro e w1 ⟨ga2, rfl, K1⟩; have K2 := Lib.hid K1; clear K1 K; (try clear a0); (try clear l0); (try clear a1); (try clear l1); (try clear a2); (try clear l2); have K := K2; clear K2); have K1 : sat E w1 [getA gg g, memA gm mz, memA gn t1.2, snapA ga2 (SnapM.new g.conf g.who g.start), confG gc c] := (((K.out.pick 5 rfl).drop.pick 4 rfl).drop.pick 3 rfl).pick 3 rfl |>.pick 3 rfl; clear K; have K := Lib.hid K1; clear K1) | (go_at_call 18; (with_reducible refine ((GSc _ _ (show sat E _ _ from by iterate 6 (try (with_reducible first | exact K.out | apply sat.alloc_any | apply sat.drew | apply sat.drewN)))).out).mono ?_); rintro e w1 ⟨rfl, K1⟩; have K2 := Lib.hid K1; clear K1 K; (try clear a0); (try clear l0); (try clear a1); (try clear l1); (try clear a2); (try clear l2); have K := K2; clear K2) | (go_at_call 35; (first | (with_reducible refine (CTA _ _ _ _ (K.out.pick 1 rfl)).out.mono ?_) | (with_reducible refine (CTA _ _ _ _ (K.out.pick 2 rfl)).out.mono ?_)); rintro e w1 ⟨rfl, rfl⟩) | (go_at_call 27; (with_reducible refine (GTA _ _ _ _ K.out).out.mono ?_); rintro e w1 ⟨rfl, rfl⟩) | (go_at_call 19; (with_reducible refine (GVA _ _ _ _ K.out).out.mono ?_); rintro e w1 ⟨rfl, rfl⟩))
                      go_roundg gk'
                      case measure => omega
                      case rel => exact ⟨j + 1, ga2, _, by have := HJ.out; omega, by first | (simp; done) | (simp; exact w64 (by omega) (by omega)), rfl, rfl, (by first | rfl | exact PH.out | exact PZ.out), (by first | rfl | exact TR.out), (by first | rfl | exact VA.out), by rw [HS.out]; have KT := takeO_mk K.out; exact ((((KT.pick 4 rfl).pick 4 rfl).pick 4 rfl).pick 4 rfl)⟩
                    · as_aux_lemma =>
                      have qf7 : (t1.1.phase == 2) = false := by simpa using q2
                      rw [if_neg q2] at e
                      rw [e] at hS
                      simp only [e] at GSc
                      have HS := Lib.hid hS
                      have PZ := Lib.hid (show (Value.int .i64 0) = .int .i64 (S (j + 1)).1.phase by rw [hS]; show _ = Value.int .i64 g.phase; rw [hp])
                      have PH := PZ
                      have TR := Lib.hid (show (Value.int .i64 g.tries) = .int .i64 (S (j + 1)).1.tries by rw [hS])
                      have VA := Lib.hid (show (Value.int .u64 g.value) = .int .u64 (S (j + 1)).1.value by rw [hS])
                      clear e hS q1 q2 ht hpn htn ht0 hokg hcg hwg hsg hfg hmzl hg0s wtr
                      go_wp2_with (first | (go_at_call 33; (with_reducible refine ((KSc _ _ (((show sat E _ _ from by iterate 6 (try (with_reducible first | exact K.out | apply sat.alloc_any | apply sat.drew | apply sat.drewN))).pick 2 rfl).pick 4 rfl)).out).mono ?_); rintro e w1 ⟨rfl, K1⟩; replace K1 := (show sat E w1 [getA gg g, memA gm mz, memA gn t1.2, snapA ga g.snap, takeA tb t1.1, confG gc c] from (((K1.pick 4 rfl).pick 2 rfl).pick 4 rfl).pick 4 rfl); have K2 := Lib.hid K1; clear K1 K; (try clear a0); (try clear l0); (try clear a1); (try clear l1); (try clear a2); (try clear l2); have K := K2; clear K2) | (go_at_call 18; (with_reducible refine ((GSc _ _ (show sat E _ _ from by iterate 6 (try (with_reducible first | exact K.out | apply sat.alloc_any | apply sat.drew | apply sat.drewN)))).out).mono ?_); rintro e w1 ⟨rfl, K1⟩; have K2 := Lib.hid K1; clear K1 K; (try clear a0); (try clear l0); (try clear a1); (try clear l1); (try clear a2); (try clear l2); have K := K2; clear K2) | (go_at_call 35; (first | (with_reducible refine (CTA _ _ _ _ (K.out.pick 1 rfl)).out.mono ?_) | (with_reducible refine (CTA _ _ _ _ (K.out.pick 2 rfl)).out.mono ?_)); rintro e w1 ⟨rfl, rfl⟩) | (go_at_call 27; (with_reducible refine (GTA _ _ _ _ K.out).out.mono ?_); rintro e w1 ⟨rfl, rfl⟩) | (go_at_call 19; (with_reducible refine (GVA _ _ _ _ K.out).out.mono ?_); rintro e w1 ⟨rfl, rfl⟩))
                      go_roundg gk'
                      case measure => omega
                      case rel => exact ⟨j + 1, ga, _, by have := HJ.out; omega, by first | (simp; done) | (simp; exact w64 (by omega) (by omega)), rfl, rfl, (by first | rfl | exact PH.out | exact PZ.out), (by first | rfl | exact TR.out), (by first | rfl | exact VA.out), by rw [HS.out]; have KT := takeO_put (K.out.pick 4 rfl); exact ((((KT.pick 4 rfl).pick 4 rfl).pick 4 rfl).pick 4 rfl)⟩
              · as_aux_lemma =>
                have qf1 : (g.phase != 0) = true := by simpa using hp
                have e := GetM.step_off (m := mz) hp
                rw [e] at hS
                simp only [e] at GSc
                have qf3 : (g.phase != g.phase) = false := by simp
                have qf4 : (g.tries != g.tries) = false := by simp
                have qf5 : (g.value != g.value) = false := by simp
                have HS := Lib.hid hS
                have PH := Lib.hid (show (Value.int .i64 g.phase) = .int .i64 (S (j + 1)).1.phase by rw [hS])
                have TR := Lib.hid (show (Value.int .i64 g.tries) = .int .i64 (S (j + 1)).1.tries by rw [hS])
                have VA := Lib.hid (show (Value.int .u64 g.value) = .int .u64 (S (j + 1)).1.value by rw [hS])
                skip
                clear e hS hp hpn htn ht0 hokg hcg hwg hsg hfg hmzl
                go_wp2_with (first | (go_at_call 18; (with_reducible refine ((GSc _ _ (show sat E _ _ from by iterate 6 (try (with_reducible first | exact K.out | apply sat.alloc_any | apply sat.drew | apply sat.drewN)))).out).mono ?_); rintro e w1 ⟨rfl, K1⟩; have K2 := Lib.hid K1; clear K1 K; (try clear a0); (try clear l0); (try clear a1); (try clear l1); (try clear a2); (try clear l2); have K := K2; clear K2) | (go_at_call 35; (first | (with_reducible refine (CTA _ _ _ _ (K.out.pick 1 rfl)).out.mono ?_) | (with_reducible refine (CTA _ _ _ _ (K.out.pick 2 rfl)).out.mono ?_)); rintro e w1 ⟨rfl, rfl⟩) | (go_at_call 27; (with_reducible refine (GTA _ _ _ _ K.out).out.mono ?_); rintro e w1 ⟨rfl, rfl⟩) | (go_at_call 19; (with_reducible refine (GVA _ _ _ _ K.out).out.mono ?_); rintro e w1 ⟨rfl, rfl⟩))
                go_roundg gk'
                case measure => omega
                case rel => exact ⟨j + 1, ga, tv, by have := HJ.out; omega, by first | (simp; done) | (simp; exact w64 (by omega) (by omega)), rfl, rfl, (by first | rfl | exact PH.out | exact PZ.out), (by first | rfl | exact TR.out), (by first | rfl | exact VA.out), by rw [HS.out]; exact K.out⟩
        · as_aux_lemma =>
          have d0 : decide ((j : Int) < 10 * c.all + 40) = false := by have := HNE.out; simp; omega
          have hok := GO.out j (by omega)
          have hll : (S j).2.log.length ≤ 1000000 := by have := hok.log; omega
          have GPc := fun w' (M : List SA) (h : sat E w' (getA gg (S j).1 :: M)) => Lib.hid (gphase_calls gg (S j).1 h)
          have LM := fun w' b (M : List SA) (h : sat E w' (memA b (S j).2 :: M)) => Lib.hid (log_calls b (S j).2 hll h)
          have qfz : ((S j).1.phase == (S j).1.phase) = true := by simp
          have K1 : sat E wr [memA gm (S j).2, memA gn (S j).2, getA gg (S j).1] := (((K.out.pick 5 rfl).drop.pick 4 rfl).drop.pick 3 rfl).drop.pick 2 rfl |>.pick 2 rfl
          clear K hok hj HJ
          have K := Lib.hid K1
          clear K1
          go_wp2_with (first | (go_at_call 9; (with_reducible refine ((AL _).out).mono ?_); rintro e w1 ⟨rfl, hb⟩; have K1 := sat.grown (by repeat (with_reducible first | exact K.out | apply sat.alloc_any | apply sat.drew | apply sat.drewN)) hb; clear hb; have K2 := Lib.hid K1; clear K1 K; (try clear a0); (try clear l0); (try clear a1); (try clear l1); (try clear a2); (try clear l2); have K := K2; clear K2) | ((fail_if_success (have _h := hM2)); (go_at_call 36; (with_reducible refine ((LM _ gm _ (show sat E _ _ from by iterate 6 (try (with_reducible first | exact K.out | apply sat.alloc_any | apply sat.drew | apply sat.drewN)))).out).mono ?_); rintro e w1 ⟨p1, c1, rfl, K1⟩; have K2 := Lib.hid K1; clear K1 K; (try clear a0); (try clear l0); (try clear a1); (try clear l1); (try clear a2); (try clear l2); have K := K2; clear K2); have K1 : sat E w1 [memA gn (S j).2, rowA (.slice p1 (S j).2.log.length c1) 74 6 (S j).2.log.length (evCells (S j).2.log), getA gg (S j).1] := ((K.out.pick 1 rfl).drop.pick 1 rfl); clear K; have K := Lib.hid K1; clear K1; have hM2 := True.intro) | (go_at_call 36; (with_reducible refine ((LM _ gn _ (show sat E _ _ from by iterate 6 (try (with_reducible first | exact K.out | apply sat.alloc_any | apply sat.drew | apply sat.drewN)))).out).mono ?_); rintro e w1 ⟨p2, c2, rfl, K1⟩; have K2 := Lib.hid K1; clear K1 K; (try clear a0); (try clear l0); (try clear a1); (try clear l1); (try clear a2); (try clear l2); have K := K2; clear K2))
          have K1 : sat E w1 [rowA (.slice p2 (S j).2.log.length c2) 74 6 (S j).2.log.length (evCells (S j).2.log), rowA (.slice p1 (S j).2.log.length c1) 74 6 (S j).2.log.length (evCells (S j).2.log), getA gg (S j).1] := (K.out.pick 1 rfl).drop
          clear K
          have K := Lib.hid K1
          clear K1
          generalize (S j).2.log = l0 at *
          go_loopg [215] l0.length (fun GG i w' => ∃ n : Nat, n + GG = l0.length ∧ i = .int .i64 n ∧ sat E w' [rowA (.slice p2 l0.length c2) 74 6 l0.length (evCells l0), rowA (.slice p1 l0.length c1) 74 6 l0.length (evCells l0), getA gg (S j).1])
          case atStart => exact ⟨0, by simp, rfl, K.out⟩
          case round =>
            obtain ⟨n, hn, rfl, hs⟩ := hrel
            clear K
            have K := Lib.hid hs
            clear hs
            have HN := Lib.hid hn
            by_cases hlt : n < l0.length
            · have d1 : decide (n < l0.length) = true := by simpa using hlt
              obtain ⟨b1, o1, hp1, hb1, hx1⟩ := oldS_evG (K.out.pick 1 rfl) n hlt
              obtain ⟨b2, o2, hp2, hb2, hx2⟩ := oldS_evG K.out n hlt
              subst hp1 hp2
              generalize l0[n] = e at *
              have Y := Lib.hid (show (wr.cell? ⟨b1, o1 + n * 6, none⟩ = some (Value.int .i64 e.who) ∧ wr.cell? ⟨b1, o1 + n * 6 + 1, none⟩ = some (Value.int .i64 e.op) ∧ wr.cell? ⟨b1, o1 + n * 6 + 2, none⟩ = some (Value.int .i64 e.cell) ∧ wr.cell? ⟨b1, o1 + n * 6 + 3, none⟩ = some (Value.int .u64 e.old) ∧ wr.cell? ⟨b1, o1 + n * 6 + 4, none⟩ = some (Value.int .u64 e.new) ∧ wr.cell? ⟨b1, o1 + n * 6 + 5, none⟩ = some (Value.bool e.ok)) ∧ (wr.cell? ⟨b2, o2 + n * 6, none⟩ = some (Value.int .i64 e.who) ∧ wr.cell? ⟨b2, o2 + n * 6 + 1, none⟩ = some (Value.int .i64 e.op) ∧ wr.cell? ⟨b2, o2 + n * 6 + 2, none⟩ = some (Value.int .i64 e.cell) ∧ wr.cell? ⟨b2, o2 + n * 6 + 3, none⟩ = some (Value.int .u64 e.old) ∧ wr.cell? ⟨b2, o2 + n * 6 + 4, none⟩ = some (Value.int .u64 e.new) ∧ wr.cell? ⟨b2, o2 + n * 6 + 5, none⟩ = some (Value.bool e.ok)) from ⟨⟨hx1 0 _ rfl, hx1 1 _ rfl, hx1 2 _ rfl, hx1 3 _ rfl, hx1 4 _ rfl, hx1 5 _ rfl⟩, hx2 0 _ rfl, hx2 1 _ rfl, hx2 2 _ rfl, hx2 3 _ rfl, hx2 4 _ rfl, hx2 5 _ rfl⟩)
              obtain ⟨gk', rfl⟩ : ∃ g', gk = g' + 1 := ⟨gk - 1, by omega⟩
              have hn3 : n < 1000001 := by omega
              clear hx1 hx2 hb1 hb2 hn
              go_wp2_with fail
              refine wp_region_noPanic ?_
              refine wp_region_held_drew (S := (fun w' => (w'.cell? ⟨b1, o1 + n * 6, none⟩ = some (Value.int .i64 e.who) ∧ w'.cell? ⟨b1, o1 + n * 6 + 1, none⟩ = some (Value.int .i64 e.op) ∧ w'.cell? ⟨b1, o1 + n * 6 + 2, none⟩ = some (Value.int .i64 e.cell) ∧ w'.cell? ⟨b1, o1 + n * 6 + 3, none⟩ = some (Value.int .u64 e.old) ∧ w'.cell? ⟨b1, o1 + n * 6 + 4, none⟩ = some (Value.int .u64 e.new) ∧ w'.cell? ⟨b1, o1 + n * 6 + 5, none⟩ = some (Value.bool e.ok)) ∧ (w'.cell? ⟨b2, o2 + n * 6, none⟩ = some (Value.int .i64 e.who) ∧ w'.cell? ⟨b2, o2 + n * 6 + 1, none⟩ = some (Value.int .i64 e.op) ∧ w'.cell? ⟨b2, o2 + n * 6 + 2, none⟩ = some (Value.int .i64 e.cell) ∧ w'.cell? ⟨b2, o2 + n * 6 + 3, none⟩ = some (Value.int .u64 e.old) ∧ w'.cell? ⟨b2, o2 + n * 6 + 4, none⟩ = some (Value.int .u64 e.new) ∧ w'.cell? ⟨b2, o2 + n * 6 + 5, none⟩ = some (Value.bool e.ok)))) (by kernel_rfl) ?_ (fun hHeld => ?_)
              · ((try dsimp only); (exact Y.out))
              refine tk 0 (some 218) ?_
              (try simp only [Act.put, p0, p1, p2])
              refine tk 1 (some 219) ?_
              (try simp only [Act.put, p0, p1, p2])
              refine tk 2 (some 220) ?_
              (try simp only [Act.put, p0, p1, p2])
              refine tk 3 (some 221) ?_
              (try simp only [Act.put, p0, p1, p2])
              refine tk 4 (some 222) ?_
              (try simp only [Act.put, p0, p1, p2])
              refine tk 5 (some 223) ?_
              (try simp only [Act.put, p0, p1, p2])
              refine tk 6 (some 224) ?_
              (try simp only [Act.put, p0, p1, p2])
              refine tk 7 (some 225) ?_
              (try simp only [Act.put, p0, p1, p2])
              refine tk 8 (some 226) ?_
              (try simp only [Act.put, p0, p1, p2])
              refine wpAnyH_done (by kernel_rfl) (NoPanic.normal ?_) _
              all_goals
                go_wp2_with fail
                go_roundg gk'
                case measure => omega
                case rel => exact ⟨n + 1, by have := HN.out; omega, by first | (simp; done) | (simp; exact w64 (by omega) (by omega)), by first | exact K.out | exact K.out.drew⟩
            · have d1 : decide (n < l0.length) = false := by simpa using hlt
              clear hn
              go_wp2_with (go_at_call 20; (with_reducible refine (GPc _ _ (K.out.pick 2 rfl)).out.mono ?_); rintro e w1 ⟨rfl, rfl⟩)
              go_ret
              exact ⟨rfl, K.out.below⟩
theorem getSteps_calls (W : World) (t : Int) (_ : (Lit.int .i64 t).wf = true) (s : Int) (_ : (Lit.int .i64 s).wf = true) (who : Int) (_ : (Lit.int .i64 who).wf = true) (st : Int) (_ : (Lit.int .i64 st).wf = true) (right : Bool) (a : Option Addr) (len cap : Nat) (rows : List (List Value)) (h : RowsAt W thingK a len cap rows) (a2 : Option Addr) (len2 cap2 : Nat) (rows2 : List (List Value)) (h2 : RowsAt W turnK a2 len2 cap2 rows2) :
    Calls Try.prog 5 #[.int .i64 t, .int .i64 s, .int .i64 who, .int .i64 st, .bool right, .slice a len cap, .slice a2 len2 cap2] W fun e W' => e = .returned (.bool true) ∧ Below W.heap.size W W' := by
  obtain ⟨l, rfl, hwf, ho⟩ := oldT_of h
  obtain ⟨l2, rfl, hwf2, ho2⟩ := oldN_of h2
  exact getSteps_main t s who st right a l cap a2 l2 cap2 W hwf ho hwf2 ho2
end Go.Proofs.Ytdhcomklmckhoaa
