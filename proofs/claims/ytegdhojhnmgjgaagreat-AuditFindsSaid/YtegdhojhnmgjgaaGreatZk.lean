/- Several texts in one: AuditL. Each says ahead of it what it shows. -/
import Derived.Test.YtegdhojhnmgjgaaGreatZj
set_option linter.unusedVariables false
set_option linter.unusedSimpArgs false
/- Whether an event may be behind others, as the statement itself reckons it (stackyardlaw17.may). Conditions: a Right layout; the events lie in memory as told; numbers within their kinds. -/
namespace Go.Proofs.YtegdhojhnmgjgaaGreat
open Go.RowKit Go.SepYtegdhojhnmgjgaaGreat Go.Maps
set_option maxRecDepth 100000
set_option maxHeartbeats 4000000
section
variable {E w : World} {L : List SA}
theorem lawS {ge gc : Nat} {e : Ev} {c : ConfM} {M : List SA} (h : sat E w (evA ge e :: pt gc (.cells [.int .i64 c.th,.int .i64 c.sl,.int .i64 c.src,.int .i64 c.dl].toArray 26 (0,0)) :: M)) :
    (∀ j,w.cell? ⟨ge,j,none⟩ = e.v[j]?) ∧ (∀ j,w.cell? ⟨gc,j,none⟩ = [Value.int .i64 c.th,.int .i64 c.sl,.int .i64 c.src,.int .i64 c.dl][j]?):=⟨h.rd 0 rfl,h.rd 1 rfl⟩
theorem ok_who {c : ConfM} {l : List Ev} {e : Ev} (h : e.who < 0 ∨ c.th ≤ e.who) : okM c l e = false:=by
  unfold okM mayM;rw [if_pos h,Bool.and_false]
theorem ok_cell {c : ConfM} {l : List Ev} {e : Ev} (h : e.cell < 0 ∨ c.cells ≤ e.cell) : okM c l e = false:=by
  have : kindM c e.cell = (0,0):=by unfold kindM;rw [if_pos h]
  unfold okM mayM
  rw [this]
  split
  · exact Bool.and_false _
  · exact Bool.and_false _
theorem ok_old {c : ConfM} {l : List Ev} {e : Ev} (h : e.old ≠ lastM l e.cell) : okM c l e = false:=by
  unfold okM;rw [show (e.old == lastM l e.cell) = false by simpa using h,Bool.false_and]
theorem ok_word {c : ConfM} {l : List Ev} {e : Ev} (h0 : ¬(e.who < 0 ∨ c.th ≤ e.who)) (h : e.old = lastM l e.cell) {n : Int} (hk : kindM c e.cell = (1,n)) : okM c l e = wordB c e n:=by
  unfold okM mayM
  rw [if_neg h0,hk,show (e.old == lastM l e.cell) = true by simpa using h,Bool.true_and]
  rfl
theorem ok_value {c : ConfM} {l : List Ev} {e : Ev} (h0 : ¬(e.who < 0 ∨ c.th ≤ e.who)) (h : e.old = lastM l e.cell) {n : Int} (hk : kindM c e.cell = (2,n)) : okM c l e = valueB c (lastM l) (rdM l e.who n) e n:=by
  unfold okM mayM
  rw [if_neg h0,hk,show (e.old == lastM l e.cell) = true by simpa using h,Bool.true_and]
  rfl
theorem ok_hazard {c : ConfM} {l : List Ev} {e : Ev} (h0 : ¬(e.who < 0 ∨ c.th ≤ e.who)) (h : e.old = lastM l e.cell) {n : Int} (hk : kindM c e.cell = (3,n)) : okM c l e = (e.op == 0 || (e.op == 1 && e.who == n)):=by
  unfold okM mayM
  rw [if_neg h0,hk,show (e.old == lastM l e.cell) = true by simpa using h,Bool.true_and]
  rfl
theorem ok_number {c : ConfM} {l : List Ev} {e : Ev} (h0 : ¬(e.who < 0 ∨ c.th ≤ e.who)) (h : e.old = lastM l e.cell) {n : Int} (hk : kindM c e.cell = (4,n)) : okM c l e = numberB c e n:=by
  unfold okM mayM
  rw [if_neg h0,hk,show (e.old == lastM l e.cell) = true by simpa using h,Bool.true_and]
  rfl
theorem kindM_w {c : ConfM} (hc : c.ok) {x : Int} (h0 : 0 ≤ x) (h1 : x < c.all) : kindM c x = (1,x):=by
  have:=hc.th1;have:=hc.all_bd
  unfold kindM ConfM.cells;rw [if_neg (by omega),if_pos h1]
theorem kindM_v {c : ConfM} (hc : c.ok) {x : Int} (h0 : c.all ≤ x) (h1 : x < 2 * c.all) : kindM c x = (2,x - c.all):=by
  have:=hc.th1;have:=hc.all_bd
  unfold kindM ConfM.cells;rw [if_neg (by omega),if_neg (by omega),if_pos h1]
theorem kindM_h {c : ConfM} (hc : c.ok) {x : Int} (h0 : 2 * c.all ≤ x) (h1 : x < 2 * c.all + c.th) : kindM c x = (3,x - 2 * c.all):=by
  have:=hc.th1;have:=hc.all_bd
  unfold kindM ConfM.cells;rw [if_neg (by omega),if_neg (by omega),if_neg (by omega),if_pos h1]
theorem kindM_n {c : ConfM} (hc : c.ok) {x : Int} (h0 : 2 * c.all + c.th ≤ x) (h1 : x < c.cells) : kindM c x = (4,x - 2 * c.all - c.th):=by
  have:=hc.th1;have:=hc.all_bd
  unfold kindM;rw [if_neg (by omega),if_neg (by omega),if_neg (by omega),if_neg (by omega)]
theorem lmay_w0 (c : ConfM) (hc : c.ok) (p : Option Addr) (l : List Ev) (cap : Nat) (e : Ev) (w : World) (hl : l.length ≤ 1000000) (hwf : ∀ e ∈ l,Ev.wf e) (he : Ev.wf e) (h : OldE w p l) (h0 : e.who < 0) :
    Tells 66 #[.agg #[.int .i64 c.th,.int .i64 c.sl,.int .i64 c.src,.int .i64 c.dl],.slice p l.length cap,.agg e.v.toArray] w (.bool (okM c l e)):=by
  have K:=Lib.hid (sat.start w)
  have CN:=fun w'=>Lib.hid (cellsn_calls c w' hc)
  have AL:=fun w'=>Lib.hid (all_calls c w' hc)
  have HB:=Lib.hid h
  have LA:=fun w' x (hb : Below w.heap.size w w')=>Lib.hid (last_calls p l cap x w' hl (h.grown hb))
  have hal:=hc.all_bd
  have hth1:=hc.th1
  have hth2:=hc.th2
  have hsl:=hc.sl1
  have hcl : c.cells = 2 * c.all + 2 * c.th:=rfl
  have O:=Lib.hid (show okM c l e = false from ok_who (.inl h0))
  have t1 : decide (e.who < 0) = true:=by simpa using h0
  clear h0
  clear h hwf he hal hth1 hth2 hsl hcl hc hl
  go_enter Tryz.func66,Tryz.ntmps66
  go_wp2_with (first|(have _hp:=gc;((with_reducible refine at_box ?_);refine st_boxf K.out rfl rfl (fun _=>rfl) ?_;intro ge w1 K1;have K2:=Lib.hid K1;clear K1 K;(try clear a0 l0);(try clear a1 l1);(try clear a2 l2);have K:=K2;clear K2;have a0:=K.out.rd 0 rfl;have l0:=K.out.ltp 0 rfl;have a1:=K.out.rd 1 rfl;have l1:=K.out.ltp 1 rfl))|((with_reducible refine at_box ?_);refine st_boxf K.out rfl rfl (fun _=>rfl) ?_;intro gc w1 K1;have K2:=Lib.hid K1;clear K1 K;(try clear a0 l0);(try clear a1 l1);(try clear a2 l2);have K:=K2;clear K2;have a0:=K.out.rd 0 rfl;have l0:=K.out.ltp 0 rfl))
  refine wp_region_noPanic ?_
  refine wp_region_held_drew (S:=(fun w'=>(∀ j,w'.cell? ⟨ge,j,none⟩ = e.v[j]?) ∧ (∀ j,w'.cell? ⟨gc,j,none⟩ = [Value.int .i64 c.th,.int .i64 c.sl,.int .i64 c.src,.int .i64 c.dl][j]?))) (by kernel_rfl) ?_ (fun hHeld=>?_)
  · ((try dsimp only);(refine lawS (E:=w) (M:=[]) ?_;first|exact K.out|exact K.out.drew))
  refine tk 0 (some 21) ?_
  try simp only[Act.put,p0,p1,p2]
  refine tk 1 (some 22) ?_
  try simp only[Act.put,p0,p1,p2]
  refine tk 2 (some 23) ?_
  try simp only[Act.put,p0,p1,p2]
  refine tk 3 (some 24) ?_
  try simp only[Act.put,p0,p1,p2]
  refine sk 4 (some 25) ?_
  try simp only[Act.put,p0,p1,p2]
  refine sk 5 (some 26) ?_
  try simp only[Act.put,p0,p1,p2]
  refine sk 6 (some 27) ?_
  try simp only[Act.put,p0,p1,p2]
  refine sk 7 (some 28) ?_
  try simp only[Act.put,p0,p1,p2]
  refine sk 8 (some 29) ?_
  try simp only[Act.put,p0,p1,p2]
  refine tk 9 (some 30) ?_
  try simp only[Act.put,p0,p1,p2]
  refine tk 10 (some 31) ?_
  try simp only[Act.put,p0,p1,p2]
  refine sk 11 (some 32) ?_
  try simp only[Act.put,p0,p1,p2]
  refine sk 12 (some 33) ?_
  try simp only[Act.put,p0,p1,p2]
  refine sk 13 (some 34) ?_
  try simp only[Act.put,p0,p1,p2]
  refine tk 14 (some 35) ?_
  try simp only[Act.put,p0,p1,p2]
  refine tk 15 (some 36) ?_
  try simp only[Act.put,p0,p1,p2]
  refine sk 16 (some 37) ?_
  try simp only[Act.put,p0,p1,p2]
  refine sk 17 (some 38) ?_
  try simp only[Act.put,p0,p1,p2]
  refine sk 18 (some 39) ?_
  try simp only[Act.put,p0,p1,p2]
  refine sk 19 (some 40) ?_
  try simp only[Act.put,p0,p1,p2]
  refine sk 20 (some 41) ?_
  try simp only[Act.put,p0,p1,p2]
  refine tk 21 (some 42) ?_
  try simp only[Act.put,p0,p1,p2]
  refine tk 22 (some 43) ?_
  try simp only[Act.put,p0,p1,p2]
  refine sk 23 (some 44) ?_
  try simp only[Act.put,p0,p1,p2]
  refine sk 24 (some 45) ?_
  try simp only[Act.put,p0,p1,p2]
  refine sk 25 (some 46) ?_
  try simp only[Act.put,p0,p1,p2]
  refine sk 26 (some 47) ?_
  try simp only[Act.put,p0,p1,p2]
  refine sk 27 (some 48) ?_
  try simp only[Act.put,p0,p1,p2]
  refine sk 28 (some 49) ?_
  try simp only[Act.put,p0,p1,p2]
  refine sk 29 (some 50) ?_
  try simp only[Act.put,p0,p1,p2]
  refine tk 30 (some 51) ?_
  try simp only[Act.put,p0,p1,p2]
  have K1:=K.out;have K2:=Lib.hid K1;clear K1 K;(try clear a0 l0);(try clear f0);(try clear a1 l1);(try clear f1);(try clear a2 l2);(try clear f2);(try clear a3 l3);(try clear f3);(try clear a4 l4);(try clear f4);(try clear a5 l5);(try clear f5);have K:=K2;clear K2;(try have a0:=K.out.rd 0 rfl);(try have l0:=K.out.ltp 0 rfl);(try have f0:=K.out.fr 0 rfl);(try have a1:=K.out.rd 1 rfl);(try have l1:=K.out.ltp 1 rfl);(try have f1:=K.out.fr 1 rfl);(try have a2:=K.out.rd 2 rfl);(try have l2:=K.out.ltp 2 rfl);(try have f2:=K.out.fr 2 rfl);(try have a3:=K.out.rd 3 rfl);(try have l3:=K.out.ltp 3 rfl);(try have f3:=K.out.fr 3 rfl)
  refine wpAnyH_done (by kernel_rfl) (NoPanic.normal ?_) _
  go_wp2
  go_ret
  exact ⟨ret_b (by rw [O.out]),(show sat w _ _ from by first|exact K.out|exact K.out.drew).below⟩
theorem lmay_w1 (c : ConfM) (hc : c.ok) (p : Option Addr) (l : List Ev) (cap : Nat) (e : Ev) (w : World) (hl : l.length ≤ 1000000) (hwf : ∀ e ∈ l,Ev.wf e) (he : Ev.wf e) (h : OldE w p l) (h0 : 0 ≤ e.who) (h1 : c.th ≤ e.who) :
    Tells 66 #[.agg #[.int .i64 c.th,.int .i64 c.sl,.int .i64 c.src,.int .i64 c.dl],.slice p l.length cap,.agg e.v.toArray] w (.bool (okM c l e)):=by
  have K:=Lib.hid (sat.start w)
  have CN:=fun w'=>Lib.hid (cellsn_calls c w' hc)
  have AL:=fun w'=>Lib.hid (all_calls c w' hc)
  have HB:=Lib.hid h
  have LA:=fun w' x (hb : Below w.heap.size w w')=>Lib.hid (last_calls p l cap x w' hl (h.grown hb))
  have hal:=hc.all_bd
  have hth1:=hc.th1
  have hth2:=hc.th2
  have hsl:=hc.sl1
  have hcl : c.cells = 2 * c.all + 2 * c.th:=rfl
  have O:=Lib.hid (show okM c l e = false from ok_who (.inr h1))
  have t1 : decide (e.who < 0) = false:=by simp;omega
  have t2 : decide (e.who ≥ c.th) = true:=by simpa using h1
  clear h0 h1
  clear h hwf he hal hth1 hth2 hsl hcl hc hl
  go_enter Tryz.func66,Tryz.ntmps66
  go_wp2_with (first|(have _hp:=gc;((with_reducible refine at_box ?_);refine st_boxf K.out rfl rfl (fun _=>rfl) ?_;intro ge w1 K1;have K2:=Lib.hid K1;clear K1 K;(try clear a0 l0);(try clear a1 l1);(try clear a2 l2);have K:=K2;clear K2;have a0:=K.out.rd 0 rfl;have l0:=K.out.ltp 0 rfl;have a1:=K.out.rd 1 rfl;have l1:=K.out.ltp 1 rfl))|((with_reducible refine at_box ?_);refine st_boxf K.out rfl rfl (fun _=>rfl) ?_;intro gc w1 K1;have K2:=Lib.hid K1;clear K1 K;(try clear a0 l0);(try clear a1 l1);(try clear a2 l2);have K:=K2;clear K2;have a0:=K.out.rd 0 rfl;have l0:=K.out.ltp 0 rfl))
  refine wp_region_noPanic ?_
  refine wp_region_held_drew (S:=(fun w'=>(∀ j,w'.cell? ⟨ge,j,none⟩ = e.v[j]?) ∧ (∀ j,w'.cell? ⟨gc,j,none⟩ = [Value.int .i64 c.th,.int .i64 c.sl,.int .i64 c.src,.int .i64 c.dl][j]?))) (by kernel_rfl) ?_ (fun hHeld=>?_)
  · ((try dsimp only);(refine lawS (E:=w) (M:=[]) ?_;first|exact K.out|exact K.out.drew))
  refine tk 0 (some 21) ?_
  try simp only[Act.put,p0,p1,p2]
  refine tk 1 (some 22) ?_
  try simp only[Act.put,p0,p1,p2]
  refine tk 2 (some 23) ?_
  try simp only[Act.put,p0,p1,p2]
  refine tk 3 (some 24) ?_
  try simp only[Act.put,p0,p1,p2]
  refine tk 4 (some 25) ?_
  try simp only[Act.put,p0,p1,p2]
  refine tk 5 (some 26) ?_
  try simp only[Act.put,p0,p1,p2]
  refine tk 6 (some 27) ?_
  try simp only[Act.put,p0,p1,p2]
  refine tk 7 (some 28) ?_
  try simp only[Act.put,p0,p1,p2]
  refine tk 8 (some 29) ?_
  try simp only[Act.put,p0,p1,p2]
  refine tk 9 (some 30) ?_
  try simp only[Act.put,p0,p1,p2]
  refine tk 10 (some 31) ?_
  try simp only[Act.put,p0,p1,p2]
  refine sk 11 (some 32) ?_
  try simp only[Act.put,p0,p1,p2]
  refine sk 12 (some 33) ?_
  try simp only[Act.put,p0,p1,p2]
  refine sk 13 (some 34) ?_
  try simp only[Act.put,p0,p1,p2]
  refine tk 14 (some 35) ?_
  try simp only[Act.put,p0,p1,p2]
  refine tk 15 (some 36) ?_
  try simp only[Act.put,p0,p1,p2]
  refine sk 16 (some 37) ?_
  try simp only[Act.put,p0,p1,p2]
  refine sk 17 (some 38) ?_
  try simp only[Act.put,p0,p1,p2]
  refine sk 18 (some 39) ?_
  try simp only[Act.put,p0,p1,p2]
  refine sk 19 (some 40) ?_
  try simp only[Act.put,p0,p1,p2]
  refine sk 20 (some 41) ?_
  try simp only[Act.put,p0,p1,p2]
  refine tk 21 (some 42) ?_
  try simp only[Act.put,p0,p1,p2]
  refine tk 22 (some 43) ?_
  try simp only[Act.put,p0,p1,p2]
  refine sk 23 (some 44) ?_
  try simp only[Act.put,p0,p1,p2]
  refine sk 24 (some 45) ?_
  try simp only[Act.put,p0,p1,p2]
  refine sk 25 (some 46) ?_
  try simp only[Act.put,p0,p1,p2]
  refine sk 26 (some 47) ?_
  try simp only[Act.put,p0,p1,p2]
  refine sk 27 (some 48) ?_
  try simp only[Act.put,p0,p1,p2]
  refine sk 28 (some 49) ?_
  try simp only[Act.put,p0,p1,p2]
  refine sk 29 (some 50) ?_
  try simp only[Act.put,p0,p1,p2]
  refine tk 30 (some 51) ?_
  try simp only[Act.put,p0,p1,p2]
  have K1:=K.out;have K2:=Lib.hid K1;clear K1 K;(try clear a0 l0);(try clear f0);(try clear a1 l1);(try clear f1);(try clear a2 l2);(try clear f2);(try clear a3 l3);(try clear f3);(try clear a4 l4);(try clear f4);(try clear a5 l5);(try clear f5);have K:=K2;clear K2;(try have a0:=K.out.rd 0 rfl);(try have l0:=K.out.ltp 0 rfl);(try have f0:=K.out.fr 0 rfl);(try have a1:=K.out.rd 1 rfl);(try have l1:=K.out.ltp 1 rfl);(try have f1:=K.out.fr 1 rfl);(try have a2:=K.out.rd 2 rfl);(try have l2:=K.out.ltp 2 rfl);(try have f2:=K.out.fr 2 rfl);(try have a3:=K.out.rd 3 rfl);(try have l3:=K.out.ltp 3 rfl);(try have f3:=K.out.fr 3 rfl)
  refine wpAnyH_done (by kernel_rfl) (NoPanic.normal ?_) _
  go_wp2
  go_ret
  exact ⟨ret_b (by rw [O.out]),(show sat w _ _ from by first|exact K.out|exact K.out.drew).below⟩
theorem lmay_c0 (c : ConfM) (hc : c.ok) (p : Option Addr) (l : List Ev) (cap : Nat) (e : Ev) (w : World) (hl : l.length ≤ 1000000) (hwf : ∀ e ∈ l,Ev.wf e) (he : Ev.wf e) (h : OldE w p l) (h0 : 0 ≤ e.who) (h1 : e.who < c.th) (h2 : e.cell < 0) :
    Tells 66 #[.agg #[.int .i64 c.th,.int .i64 c.sl,.int .i64 c.src,.int .i64 c.dl],.slice p l.length cap,.agg e.v.toArray] w (.bool (okM c l e)):=by
  have K:=Lib.hid (sat.start w)
  have CN:=fun w'=>Lib.hid (cellsn_calls c w' hc)
  have AL:=fun w'=>Lib.hid (all_calls c w' hc)
  have HB:=Lib.hid h
  have LA:=fun w' x (hb : Below w.heap.size w w')=>Lib.hid (last_calls p l cap x w' hl (h.grown hb))
  have hal:=hc.all_bd
  have hth1:=hc.th1
  have hth2:=hc.th2
  have hsl:=hc.sl1
  have hcl : c.cells = 2 * c.all + 2 * c.th:=rfl
  have O:=Lib.hid (show okM c l e = false from ok_cell (.inl h2))
  have t1 : decide (e.who < 0) = false:=by simp;omega
  have t2 : decide (e.who ≥ c.th) = false:=by simp;omega
  have t3 : decide (e.cell < 0) = true:=by simpa using h2
  clear h0 h1 h2
  clear h hwf he hal hth1 hth2 hsl hcl hc hl
  go_enter Tryz.func66,Tryz.ntmps66
  go_wp2_with (first|(have _hp:=gc;((with_reducible refine at_box ?_);refine st_boxf K.out rfl rfl (fun _=>rfl) ?_;intro ge w1 K1;have K2:=Lib.hid K1;clear K1 K;(try clear a0 l0);(try clear a1 l1);(try clear a2 l2);have K:=K2;clear K2;have a0:=K.out.rd 0 rfl;have l0:=K.out.ltp 0 rfl;have a1:=K.out.rd 1 rfl;have l1:=K.out.ltp 1 rfl))|((with_reducible refine at_box ?_);refine st_boxf K.out rfl rfl (fun _=>rfl) ?_;intro gc w1 K1;have K2:=Lib.hid K1;clear K1 K;(try clear a0 l0);(try clear a1 l1);(try clear a2 l2);have K:=K2;clear K2;have a0:=K.out.rd 0 rfl;have l0:=K.out.ltp 0 rfl))
  refine wp_region_noPanic ?_
  refine wp_region_held_drew (S:=(fun w'=>(∀ j,w'.cell? ⟨ge,j,none⟩ = e.v[j]?) ∧ (∀ j,w'.cell? ⟨gc,j,none⟩ = [Value.int .i64 c.th,.int .i64 c.sl,.int .i64 c.src,.int .i64 c.dl][j]?))) (by kernel_rfl) ?_ (fun hHeld=>?_)
  · ((try dsimp only);(refine lawS (E:=w) (M:=[]) ?_;first|exact K.out|exact K.out.drew))
  refine tk 0 (some 21) ?_
  try simp only[Act.put,p0,p1,p2]
  refine tk 1 (some 22) ?_
  try simp only[Act.put,p0,p1,p2]
  refine tk 2 (some 23) ?_
  try simp only[Act.put,p0,p1,p2]
  refine tk 3 (some 24) ?_
  try simp only[Act.put,p0,p1,p2]
  refine tk 4 (some 25) ?_
  try simp only[Act.put,p0,p1,p2]
  refine tk 5 (some 26) ?_
  try simp only[Act.put,p0,p1,p2]
  refine tk 6 (some 27) ?_
  try simp only[Act.put,p0,p1,p2]
  refine tk 7 (some 28) ?_
  try simp only[Act.put,p0,p1,p2]
  refine tk 8 (some 29) ?_
  try simp only[Act.put,p0,p1,p2]
  refine tk 9 (some 30) ?_
  try simp only[Act.put,p0,p1,p2]
  refine tk 10 (some 31) ?_
  try simp only[Act.put,p0,p1,p2]
  refine tk 11 (some 32) ?_
  try simp only[Act.put,p0,p1,p2]
  refine tk 12 (some 33) ?_
  try simp only[Act.put,p0,p1,p2]
  refine tk 13 (some 34) ?_
  try simp only[Act.put,p0,p1,p2]
  refine tk 14 (some 35) ?_
  try simp only[Act.put,p0,p1,p2]
  refine tk 15 (some 36) ?_
  try simp only[Act.put,p0,p1,p2]
  refine sk 16 (some 37) ?_
  try simp only[Act.put,p0,p1,p2]
  refine sk 17 (some 38) ?_
  try simp only[Act.put,p0,p1,p2]
  refine sk 18 (some 39) ?_
  try simp only[Act.put,p0,p1,p2]
  refine sk 19 (some 40) ?_
  try simp only[Act.put,p0,p1,p2]
  refine sk 20 (some 41) ?_
  try simp only[Act.put,p0,p1,p2]
  refine tk 21 (some 42) ?_
  try simp only[Act.put,p0,p1,p2]
  refine tk 22 (some 43) ?_
  try simp only[Act.put,p0,p1,p2]
  refine sk 23 (some 44) ?_
  try simp only[Act.put,p0,p1,p2]
  refine sk 24 (some 45) ?_
  try simp only[Act.put,p0,p1,p2]
  refine sk 25 (some 46) ?_
  try simp only[Act.put,p0,p1,p2]
  refine sk 26 (some 47) ?_
  try simp only[Act.put,p0,p1,p2]
  refine sk 27 (some 48) ?_
  try simp only[Act.put,p0,p1,p2]
  refine sk 28 (some 49) ?_
  try simp only[Act.put,p0,p1,p2]
  refine sk 29 (some 50) ?_
  try simp only[Act.put,p0,p1,p2]
  refine tk 30 (some 51) ?_
  try simp only[Act.put,p0,p1,p2]
  have K1:=K.out;have K2:=Lib.hid K1;clear K1 K;(try clear a0 l0);(try clear f0);(try clear a1 l1);(try clear f1);(try clear a2 l2);(try clear f2);(try clear a3 l3);(try clear f3);(try clear a4 l4);(try clear f4);(try clear a5 l5);(try clear f5);have K:=K2;clear K2;(try have a0:=K.out.rd 0 rfl);(try have l0:=K.out.ltp 0 rfl);(try have f0:=K.out.fr 0 rfl);(try have a1:=K.out.rd 1 rfl);(try have l1:=K.out.ltp 1 rfl);(try have f1:=K.out.fr 1 rfl);(try have a2:=K.out.rd 2 rfl);(try have l2:=K.out.ltp 2 rfl);(try have f2:=K.out.fr 2 rfl);(try have a3:=K.out.rd 3 rfl);(try have l3:=K.out.ltp 3 rfl);(try have f3:=K.out.fr 3 rfl)
  refine wpAnyH_done (by kernel_rfl) (NoPanic.normal ?_) _
  go_wp2
  go_ret
  exact ⟨ret_b (by rw [O.out]),(show sat w _ _ from by first|exact K.out|exact K.out.drew).below⟩
theorem lmay_c1 (c : ConfM) (hc : c.ok) (p : Option Addr) (l : List Ev) (cap : Nat) (e : Ev) (w : World) (hl : l.length ≤ 1000000) (hwf : ∀ e ∈ l,Ev.wf e) (he : Ev.wf e) (h : OldE w p l) (h0 : 0 ≤ e.who) (h1 : e.who < c.th) (h2 : 0 ≤ e.cell) (h3 : c.cells ≤ e.cell) :
    Tells 66 #[.agg #[.int .i64 c.th,.int .i64 c.sl,.int .i64 c.src,.int .i64 c.dl],.slice p l.length cap,.agg e.v.toArray] w (.bool (okM c l e)):=by
  have K:=Lib.hid (sat.start w)
  have CN:=fun w'=>Lib.hid (cellsn_calls c w' hc)
  have AL:=fun w'=>Lib.hid (all_calls c w' hc)
  have HB:=Lib.hid h
  have LA:=fun w' x (hb : Below w.heap.size w w')=>Lib.hid (last_calls p l cap x w' hl (h.grown hb))
  have hal:=hc.all_bd
  have hth1:=hc.th1
  have hth2:=hc.th2
  have hsl:=hc.sl1
  have hcl : c.cells = 2 * c.all + 2 * c.th:=rfl
  have O:=Lib.hid (show okM c l e = false from ok_cell (.inr h3))
  have t1 : decide (e.who < 0) = false:=by simp;omega
  have t2 : decide (e.who ≥ c.th) = false:=by simp;omega
  have t3 : decide (e.cell < 0) = false:=by simp;omega
  have t4 : decide (e.cell ≥ c.cells) = true:=by simpa using h3
  clear h0 h1 h2 h3
  clear h hwf he hal hth1 hth2 hsl hcl hc hl
  go_enter Tryz.func66,Tryz.ntmps66
  go_wp2_with (first|(have _hp:=gc;((with_reducible refine at_box ?_);refine st_boxf K.out rfl rfl (fun _=>rfl) ?_;intro ge w1 K1;have K2:=Lib.hid K1;clear K1 K;(try clear a0 l0);(try clear a1 l1);(try clear a2 l2);have K:=K2;clear K2;have a0:=K.out.rd 0 rfl;have l0:=K.out.ltp 0 rfl;have a1:=K.out.rd 1 rfl;have l1:=K.out.ltp 1 rfl))|((with_reducible refine at_box ?_);refine st_boxf K.out rfl rfl (fun _=>rfl) ?_;intro gc w1 K1;have K2:=Lib.hid K1;clear K1 K;(try clear a0 l0);(try clear a1 l1);(try clear a2 l2);have K:=K2;clear K2;have a0:=K.out.rd 0 rfl;have l0:=K.out.ltp 0 rfl))
  refine wp_region_noPanic ?_
  refine wp_region_held_drew (S:=(fun w'=>(∀ j,w'.cell? ⟨ge,j,none⟩ = e.v[j]?) ∧ (∀ j,w'.cell? ⟨gc,j,none⟩ = [Value.int .i64 c.th,.int .i64 c.sl,.int .i64 c.src,.int .i64 c.dl][j]?))) (by kernel_rfl) ?_ (fun hHeld=>?_)
  · ((try dsimp only);(refine lawS (E:=w) (M:=[]) ?_;first|exact K.out|exact K.out.drew))
  refine tk 0 (some 21) ?_
  try simp only[Act.put,p0,p1,p2]
  refine tk 1 (some 22) ?_
  try simp only[Act.put,p0,p1,p2]
  refine tk 2 (some 23) ?_
  try simp only[Act.put,p0,p1,p2]
  refine tk 3 (some 24) ?_
  try simp only[Act.put,p0,p1,p2]
  refine tk 4 (some 25) ?_
  try simp only[Act.put,p0,p1,p2]
  refine tk 5 (some 26) ?_
  try simp only[Act.put,p0,p1,p2]
  refine tk 6 (some 27) ?_
  try simp only[Act.put,p0,p1,p2]
  refine tk 7 (some 28) ?_
  try simp only[Act.put,p0,p1,p2]
  refine tk 8 (some 29) ?_
  try simp only[Act.put,p0,p1,p2]
  refine tk 9 (some 30) ?_
  try simp only[Act.put,p0,p1,p2]
  refine tk 10 (some 31) ?_
  try simp only[Act.put,p0,p1,p2]
  refine tk 11 (some 32) ?_
  try simp only[Act.put,p0,p1,p2]
  refine tk 12 (some 33) ?_
  try simp only[Act.put,p0,p1,p2]
  refine tk 13 (some 34) ?_
  try simp only[Act.put,p0,p1,p2]
  refine tk 14 (some 35) ?_
  try simp only[Act.put,p0,p1,p2]
  refine tk 15 (some 36) ?_
  try simp only[Act.put,p0,p1,p2]
  refine tk 16 (some 37) ?_
  try simp only[Act.put,p0,p1,p2]
  refine tk 17 (some 38) ?_
  try simp only[Act.put,p0,p1,p2]
  refine tk 18 (some 39) ?_
  try simp only[Act.put,p0,p1,p2]
  refine wpAnyH_ready (rs:=[19]) (by kernel_rfl) (by simp) ?_
  refine AllReadyH.cons (o:=_) rfl (fun kC hkC=>?_) AllReadyH.nil
  go_simp
  (first|(go_at_call 18;(with_reducible refine ((CN _).out).mono ?_);rintro e w1 ⟨rfl,hb⟩;have K1:=sat.grown (show sat _ _ _ from by first|exact K.out|exact K.out.drew) hb;clear hb;have K2:=Lib.hid K1;clear K1 K;have K:=K2;clear K2))
  refine shown hkC _ _ (by (try dsimp only);(refine lawS (E:=w) (M:=[]) ?_;first|exact K.out|exact K.out.drew)) ?_;clear hkC kC hHeld;intro hHeld
  try simp only[Act.put,p0,p1,p2]
  refine tk 20 (some 41) ?_
  try simp only[Act.put,p0,p1,p2]
  refine tk 21 (some 42) ?_
  try simp only[Act.put,p0,p1,p2]
  refine tk 22 (some 43) ?_
  try simp only[Act.put,p0,p1,p2]
  refine sk 23 (some 44) ?_
  try simp only[Act.put,p0,p1,p2]
  refine sk 24 (some 45) ?_
  try simp only[Act.put,p0,p1,p2]
  refine sk 25 (some 46) ?_
  try simp only[Act.put,p0,p1,p2]
  refine sk 26 (some 47) ?_
  try simp only[Act.put,p0,p1,p2]
  refine sk 27 (some 48) ?_
  try simp only[Act.put,p0,p1,p2]
  refine sk 28 (some 49) ?_
  try simp only[Act.put,p0,p1,p2]
  refine sk 29 (some 50) ?_
  try simp only[Act.put,p0,p1,p2]
  refine tk 30 (some 51) ?_
  try simp only[Act.put,p0,p1,p2]
  have K1:=K.out;have K2:=Lib.hid K1;clear K1 K;(try clear a0 l0);(try clear f0);(try clear a1 l1);(try clear f1);(try clear a2 l2);(try clear f2);(try clear a3 l3);(try clear f3);(try clear a4 l4);(try clear f4);(try clear a5 l5);(try clear f5);have K:=K2;clear K2;(try have a0:=K.out.rd 0 rfl);(try have l0:=K.out.ltp 0 rfl);(try have f0:=K.out.fr 0 rfl);(try have a1:=K.out.rd 1 rfl);(try have l1:=K.out.ltp 1 rfl);(try have f1:=K.out.fr 1 rfl);(try have a2:=K.out.rd 2 rfl);(try have l2:=K.out.ltp 2 rfl);(try have f2:=K.out.fr 2 rfl);(try have a3:=K.out.rd 3 rfl);(try have l3:=K.out.ltp 3 rfl);(try have f3:=K.out.fr 3 rfl)
  refine wpAnyH_done (by kernel_rfl) (NoPanic.normal ?_) _
  go_wp2
  go_ret
  exact ⟨ret_b (by rw [O.out]),(show sat w _ _ from by first|exact K.out|exact K.out.drew).below⟩
theorem lmay_old (c : ConfM) (hc : c.ok) (p : Option Addr) (l : List Ev) (cap : Nat) (e : Ev) (w : World) (hl : l.length ≤ 1000000) (hwf : ∀ e ∈ l,Ev.wf e) (he : Ev.wf e) (h : OldE w p l) (h0 : 0 ≤ e.who) (h1 : e.who < c.th) (h2 : 0 ≤ e.cell) (h3 : e.cell < c.cells) (h4 : e.old ≠ lastM l e.cell) :
    Tells 66 #[.agg #[.int .i64 c.th,.int .i64 c.sl,.int .i64 c.src,.int .i64 c.dl],.slice p l.length cap,.agg e.v.toArray] w (.bool (okM c l e)):=by
  have K:=Lib.hid (sat.start w)
  have CN:=fun w'=>Lib.hid (cellsn_calls c w' hc)
  have AL:=fun w'=>Lib.hid (all_calls c w' hc)
  have HB:=Lib.hid h
  have LA:=fun w' x (hb : Below w.heap.size w w')=>Lib.hid (last_calls p l cap x w' hl (h.grown hb))
  have hal:=hc.all_bd
  have hth1:=hc.th1
  have hth2:=hc.th2
  have hsl:=hc.sl1
  have hcl : c.cells = 2 * c.all + 2 * c.th:=rfl
  have O:=Lib.hid (show okM c l e = false from ok_old h4)
  have t5 : (e.old != lastM l e.cell) = true:=by simpa using h4
  have t1 : decide (e.who < 0) = false:=by simp;omega
  have t2 : decide (e.who ≥ c.th) = false:=by simp;omega
  have t3 : decide (e.cell < 0) = false:=by simp;omega
  have t4 : decide (e.cell ≥ c.cells) = false:=by simp;omega
  clear h0 h1 h2 h3 h4
  clear h hwf he hal hth1 hth2 hsl hcl hc hl
  go_enter Tryz.func66,Tryz.ntmps66
  go_wp2_with (first|(have _hp:=gc;((with_reducible refine at_box ?_);refine st_boxf K.out rfl rfl (fun _=>rfl) ?_;intro ge w1 K1;have K2:=Lib.hid K1;clear K1 K;(try clear a0 l0);(try clear a1 l1);(try clear a2 l2);have K:=K2;clear K2;have a0:=K.out.rd 0 rfl;have l0:=K.out.ltp 0 rfl;have a1:=K.out.rd 1 rfl;have l1:=K.out.ltp 1 rfl))|((with_reducible refine at_box ?_);refine st_boxf K.out rfl rfl (fun _=>rfl) ?_;intro gc w1 K1;have K2:=Lib.hid K1;clear K1 K;(try clear a0 l0);(try clear a1 l1);(try clear a2 l2);have K:=K2;clear K2;have a0:=K.out.rd 0 rfl;have l0:=K.out.ltp 0 rfl))
  refine wp_region_noPanic ?_
  refine wp_region_held_drew (S:=(fun w'=>(∀ j,w'.cell? ⟨ge,j,none⟩ = e.v[j]?) ∧ (∀ j,w'.cell? ⟨gc,j,none⟩ = [Value.int .i64 c.th,.int .i64 c.sl,.int .i64 c.src,.int .i64 c.dl][j]?))) (by kernel_rfl) ?_ (fun hHeld=>?_)
  · ((try dsimp only);(refine lawS (E:=w) (M:=[]) ?_;first|exact K.out|exact K.out.drew))
  refine tk 0 (some 21) ?_
  try simp only[Act.put,p0,p1,p2]
  refine tk 1 (some 22) ?_
  try simp only[Act.put,p0,p1,p2]
  refine tk 2 (some 23) ?_
  try simp only[Act.put,p0,p1,p2]
  refine tk 3 (some 24) ?_
  try simp only[Act.put,p0,p1,p2]
  refine tk 4 (some 25) ?_
  try simp only[Act.put,p0,p1,p2]
  refine tk 5 (some 26) ?_
  try simp only[Act.put,p0,p1,p2]
  refine tk 6 (some 27) ?_
  try simp only[Act.put,p0,p1,p2]
  refine tk 7 (some 28) ?_
  try simp only[Act.put,p0,p1,p2]
  refine tk 8 (some 29) ?_
  try simp only[Act.put,p0,p1,p2]
  refine tk 9 (some 30) ?_
  try simp only[Act.put,p0,p1,p2]
  refine tk 10 (some 31) ?_
  try simp only[Act.put,p0,p1,p2]
  refine tk 11 (some 32) ?_
  try simp only[Act.put,p0,p1,p2]
  refine tk 12 (some 33) ?_
  try simp only[Act.put,p0,p1,p2]
  refine tk 13 (some 34) ?_
  try simp only[Act.put,p0,p1,p2]
  refine tk 14 (some 35) ?_
  try simp only[Act.put,p0,p1,p2]
  refine tk 15 (some 36) ?_
  try simp only[Act.put,p0,p1,p2]
  refine tk 16 (some 37) ?_
  try simp only[Act.put,p0,p1,p2]
  refine tk 17 (some 38) ?_
  try simp only[Act.put,p0,p1,p2]
  refine tk 18 (some 39) ?_
  try simp only[Act.put,p0,p1,p2]
  refine wpAnyH_ready (rs:=[19]) (by kernel_rfl) (by simp) ?_
  refine AllReadyH.cons (o:=_) rfl (fun kC hkC=>?_) AllReadyH.nil
  go_simp
  (first|((first|(go_at_call 18;(with_reducible refine ((CN _).out).mono ?_))|(go_at_call 90;(with_reducible refine ((LA _ _ K.out.below).out).mono ?_))|(go_at_call 90;(with_reducible refine ((LA _ _ K.out.drew.below).out).mono ?_)));rintro e w1 ⟨rfl,hb⟩;have K1:=sat.grown (show sat _ _ _ from by first|exact K.out|exact K.out.drew) hb;clear hb;have K2:=Lib.hid K1;clear K1 K;have K:=K2;clear K2))
  refine shown hkC _ _ (by (try dsimp only);(refine lawS (E:=w) (M:=[]) ?_;first|exact K.out|exact K.out.drew)) ?_;clear hkC kC hHeld;intro hHeld
  try simp only[Act.put,p0,p1,p2]
  refine tk 20 (some 41) ?_
  try simp only[Act.put,p0,p1,p2]
  refine tk 21 (some 42) ?_
  try simp only[Act.put,p0,p1,p2]
  refine tk 22 (some 43) ?_
  try simp only[Act.put,p0,p1,p2]
  refine tk 23 (some 44) ?_
  try simp only[Act.put,p0,p1,p2]
  refine tk 24 (some 45) ?_
  try simp only[Act.put,p0,p1,p2]
  refine tk 25 (some 46) ?_
  try simp only[Act.put,p0,p1,p2]
  refine tk 26 (some 47) ?_
  try simp only[Act.put,p0,p1,p2]
  refine tk 27 (some 48) ?_
  try simp only[Act.put,p0,p1,p2]
  refine wpAnyH_ready (rs:=[28]) (by kernel_rfl) (by simp) ?_
  refine AllReadyH.cons (o:=_) rfl (fun kC hkC=>?_) AllReadyH.nil
  go_simp
  (first|((first|(go_at_call 18;(with_reducible refine ((CN _).out).mono ?_))|(go_at_call 90;(with_reducible refine ((LA _ _ K.out.below).out).mono ?_))|(go_at_call 90;(with_reducible refine ((LA _ _ K.out.drew.below).out).mono ?_)));rintro e w1 ⟨rfl,hb⟩;have K1:=sat.grown (show sat _ _ _ from by first|exact K.out|exact K.out.drew) hb;clear hb;have K2:=Lib.hid K1;clear K1 K;have K:=K2;clear K2))
  refine shown hkC _ _ (by (try dsimp only);(refine lawS (E:=w) (M:=[]) ?_;first|exact K.out|exact K.out.drew)) ?_;clear hkC kC hHeld;intro hHeld
  try simp only[Act.put,p0,p1,p2]
  refine tk 29 (some 50) ?_
  try simp only[Act.put,p0,p1,p2]
  refine tk 30 (some 51) ?_
  try simp only[Act.put,p0,p1,p2]
  have K1:=K.out;have K2:=Lib.hid K1;clear K1 K;(try clear a0 l0);(try clear f0);(try clear a1 l1);(try clear f1);(try clear a2 l2);(try clear f2);(try clear a3 l3);(try clear f3);(try clear a4 l4);(try clear f4);(try clear a5 l5);(try clear f5);have K:=K2;clear K2;(try have a0:=K.out.rd 0 rfl);(try have l0:=K.out.ltp 0 rfl);(try have f0:=K.out.fr 0 rfl);(try have a1:=K.out.rd 1 rfl);(try have l1:=K.out.ltp 1 rfl);(try have f1:=K.out.fr 1 rfl);(try have a2:=K.out.rd 2 rfl);(try have l2:=K.out.ltp 2 rfl);(try have f2:=K.out.fr 2 rfl);(try have a3:=K.out.rd 3 rfl);(try have l3:=K.out.ltp 3 rfl);(try have f3:=K.out.fr 3 rfl)
  refine wpAnyH_done (by kernel_rfl) (NoPanic.normal ?_) _
  go_wp2
  go_ret
  exact ⟨ret_b (by rw [O.out]),(show sat w _ _ from by first|exact K.out|exact K.out.drew).below⟩
theorem lmay_word0 (c : ConfM) (hc : c.ok) (p : Option Addr) (l : List Ev) (cap : Nat) (e : Ev) (w : World) (hl : l.length ≤ 1000000) (hwf : ∀ e ∈ l,Ev.wf e) (he : Ev.wf e) (h : OldE w p l) (h0 : 0 ≤ e.who) (h1 : e.who < c.th) (h2 : 0 ≤ e.cell) (h3 : e.cell < c.cells) (h4 : e.old = lastM l e.cell) (hkd : e.cell < c.all) (ho : e.op = 0) :
    Tells 66 #[.agg #[.int .i64 c.th,.int .i64 c.sl,.int .i64 c.src,.int .i64 c.dl],.slice p l.length cap,.agg e.v.toArray] w (.bool (wordB c e e.cell)):=by
  have K:=Lib.hid (sat.start w)
  have CN:=fun w'=>Lib.hid (cellsn_calls c w' hc)
  have AL:=fun w'=>Lib.hid (all_calls c w' hc)
  have HB:=Lib.hid h
  have LA:=fun w' x (hb : Below w.heap.size w w')=>Lib.hid (last_calls p l cap x w' hl (h.grown hb))
  have hal:=hc.all_bd
  have hth1:=hc.th1
  have hth2:=hc.th2
  have hsl:=hc.sl1
  have hcl : c.cells = 2 * c.all + 2 * c.th:=rfl
  unfold wordB
  rw [next_iff,taken_iff]
  have W:=fun w'=>Lib.hid (unpack_lay e.old he.2.2.1.1 he.2.2.1.2 w')
  have N:=fun w'=>Lib.hid (unpack_lay e.new he.2.2.2.1 he.2.2.2.2 w')
  have gb : 0 ≤ (unpack e.old).gen ∧ (unpack e.old).gen ≤ 100000:=by unfold unpack;dsimp only;omega
  have RI:=fun w'=>Lib.hid (sright_calls (unpack e.new).stamp w')
  generalize unpack e.old = was at *
  generalize unpack e.new = now at *
  have ow : IntKind.i64.wrap (Int.tdiv e.cell c.sl) = ownerM c e.cell:=by
    unfold ownerM
    rw [Int.tdiv_eq_ediv_of_nonneg h2]
    have:=Int.ediv_le_self c.sl h2
    have:=Int.ediv_nonneg h2 (b:=c.sl) (by omega)
    exact wi (by omega) (by omega)
  have z0 : (c.sl == 0) = false:=by simp;omega
  have z1 : ¬ c.sl = 0:=by omega
  generalize ownerM c e.cell = own at *
  have t6 : decide (e.cell < c.all) = true:=by simpa using hkd
  have o0 : (e.op == 0) = true:=by simp [ho]
  have o1 : (e.op == 1) = false:=by simp [ho]
  have o2 : (e.op == 2) = false:=by simp [ho]
  have t5 : (e.old != lastM l e.cell) = false:=by simp [h4]
  have t1 : decide (e.who < 0) = false:=by simp;omega
  have t2 : decide (e.who ≥ c.th) = false:=by simp;omega
  have t3 : decide (e.cell < 0) = false:=by simp;omega
  have t4 : decide (e.cell ≥ c.cells) = false:=by simp;omega
  clear h hwf he hcl hc hl h0 h1 h2 h3 h4 hkd ho
  go_enter Tryz.func66,Tryz.ntmps66
  go_wp2_with (first|(have _hp:=gc;((with_reducible refine at_box ?_);refine st_boxf K.out rfl rfl (fun _=>rfl) ?_;intro ge w1 K1;have K2:=Lib.hid K1;clear K1 K;(try clear a0 l0);(try clear a1 l1);(try clear a2 l2);have K:=K2;clear K2;have a0:=K.out.rd 0 rfl;have l0:=K.out.ltp 0 rfl;have a1:=K.out.rd 1 rfl;have l1:=K.out.ltp 1 rfl))|((with_reducible refine at_box ?_);refine st_boxf K.out rfl rfl (fun _=>rfl) ?_;intro gc w1 K1;have K2:=Lib.hid K1;clear K1 K;(try clear a0 l0);(try clear a1 l1);(try clear a2 l2);have K:=K2;clear K2;have a0:=K.out.rd 0 rfl;have l0:=K.out.ltp 0 rfl))
  refine wp_region_noPanic ?_
  refine wp_region_held_drew (S:=(fun w'=>(∀ j,w'.cell? ⟨ge,j,none⟩ = e.v[j]?) ∧ (∀ j,w'.cell? ⟨gc,j,none⟩ = [Value.int .i64 c.th,.int .i64 c.sl,.int .i64 c.src,.int .i64 c.dl][j]?))) (by kernel_rfl) ?_ (fun hHeld=>?_)
  · ((try dsimp only);(refine lawS (E:=w) (M:=[]) ?_;first|exact K.out|exact K.out.drew))
  refine tk 0 (some 21) ?_
  try simp only[Act.put,p0,p1,p2]
  refine tk 1 (some 22) ?_
  try simp only[Act.put,p0,p1,p2]
  refine tk 2 (some 23) ?_
  try simp only[Act.put,p0,p1,p2]
  refine tk 3 (some 24) ?_
  try simp only[Act.put,p0,p1,p2]
  refine tk 4 (some 25) ?_
  try simp only[Act.put,p0,p1,p2]
  refine tk 5 (some 26) ?_
  try simp only[Act.put,p0,p1,p2]
  refine tk 6 (some 27) ?_
  try simp only[Act.put,p0,p1,p2]
  refine tk 7 (some 28) ?_
  try simp only[Act.put,p0,p1,p2]
  refine tk 8 (some 29) ?_
  try simp only[Act.put,p0,p1,p2]
  refine tk 9 (some 30) ?_
  try simp only[Act.put,p0,p1,p2]
  refine tk 10 (some 31) ?_
  try simp only[Act.put,p0,p1,p2]
  refine tk 11 (some 32) ?_
  try simp only[Act.put,p0,p1,p2]
  refine tk 12 (some 33) ?_
  try simp only[Act.put,p0,p1,p2]
  refine tk 13 (some 34) ?_
  try simp only[Act.put,p0,p1,p2]
  refine tk 14 (some 35) ?_
  try simp only[Act.put,p0,p1,p2]
  refine tk 15 (some 36) ?_
  try simp only[Act.put,p0,p1,p2]
  refine tk 16 (some 37) ?_
  try simp only[Act.put,p0,p1,p2]
  refine tk 17 (some 38) ?_
  try simp only[Act.put,p0,p1,p2]
  refine tk 18 (some 39) ?_
  try simp only[Act.put,p0,p1,p2]
  refine wpAnyH_ready (rs:=[19]) (by kernel_rfl) (by simp) ?_
  refine AllReadyH.cons (o:=_) rfl (fun kC hkC=>?_) AllReadyH.nil
  go_simp
  (first|((first|(go_at_call 18;(with_reducible refine ((CN _).out).mono ?_))|(go_at_call 90;(with_reducible refine ((LA _ _ K.out.below).out).mono ?_))|(go_at_call 90;(with_reducible refine ((LA _ _ K.out.drew.below).out).mono ?_)));rintro e w1 ⟨rfl,hb⟩;have K1:=sat.grown (show sat _ _ _ from by first|exact K.out|exact K.out.drew) hb;clear hb;have K2:=Lib.hid K1;clear K1 K;have K:=K2;clear K2))
  refine shown hkC _ _ (by (try dsimp only);(refine lawS (E:=w) (M:=[]) ?_;first|exact K.out|exact K.out.drew)) ?_;clear hkC kC hHeld;intro hHeld
  try simp only[Act.put,p0,p1,p2]
  refine tk 20 (some 41) ?_
  try simp only[Act.put,p0,p1,p2]
  refine tk 21 (some 42) ?_
  try simp only[Act.put,p0,p1,p2]
  refine tk 22 (some 43) ?_
  try simp only[Act.put,p0,p1,p2]
  refine tk 23 (some 44) ?_
  try simp only[Act.put,p0,p1,p2]
  refine tk 24 (some 45) ?_
  try simp only[Act.put,p0,p1,p2]
  refine tk 25 (some 46) ?_
  try simp only[Act.put,p0,p1,p2]
  refine tk 26 (some 47) ?_
  try simp only[Act.put,p0,p1,p2]
  refine tk 27 (some 48) ?_
  try simp only[Act.put,p0,p1,p2]
  refine wpAnyH_ready (rs:=[28]) (by kernel_rfl) (by simp) ?_
  refine AllReadyH.cons (o:=_) rfl (fun kC hkC=>?_) AllReadyH.nil
  go_simp
  (first|((first|(go_at_call 18;(with_reducible refine ((CN _).out).mono ?_))|(go_at_call 90;(with_reducible refine ((LA _ _ K.out.below).out).mono ?_))|(go_at_call 90;(with_reducible refine ((LA _ _ K.out.drew.below).out).mono ?_)));rintro e w1 ⟨rfl,hb⟩;have K1:=sat.grown (show sat _ _ _ from by first|exact K.out|exact K.out.drew) hb;clear hb;have K2:=Lib.hid K1;clear K1 K;have K:=K2;clear K2))
  refine shown hkC _ _ (by (try dsimp only);(refine lawS (E:=w) (M:=[]) ?_;first|exact K.out|exact K.out.drew)) ?_;clear hkC kC hHeld;intro hHeld
  try simp only[Act.put,p0,p1,p2]
  refine tk 29 (some 50) ?_
  try simp only[Act.put,p0,p1,p2]
  refine tk 30 (some 51) ?_
  try simp only[Act.put,p0,p1,p2]
  have K1:=K.out;have K2:=Lib.hid K1;clear K1 K;(try clear a0 l0);(try clear f0);(try clear a1 l1);(try clear f1);(try clear a2 l2);(try clear f2);(try clear a3 l3);(try clear f3);(try clear a4 l4);(try clear f4);(try clear a5 l5);(try clear f5);have K:=K2;clear K2;(try have a0:=K.out.rd 0 rfl);(try have l0:=K.out.ltp 0 rfl);(try have f0:=K.out.fr 0 rfl);(try have a1:=K.out.rd 1 rfl);(try have l1:=K.out.ltp 1 rfl);(try have f1:=K.out.fr 1 rfl);(try have a2:=K.out.rd 2 rfl);(try have l2:=K.out.ltp 2 rfl);(try have f2:=K.out.fr 2 rfl);(try have a3:=K.out.rd 3 rfl);(try have l3:=K.out.ltp 3 rfl);(try have f3:=K.out.fr 3 rfl)
  refine wpAnyH_done (by kernel_rfl) (NoPanic.normal ?_) _
  (have K1 : sat w _ _:=(by first|exact K.out|exact K.out.drew);clear K;(try clear a0 l0);(try clear a1 l1);have K:=Lib.hid K1;clear K1)
  have a0:=K.out.rd 0 rfl
  have l0:=K.out.ltp 0 rfl
  have a1:=K.out.rd 1 rfl
  have l1:=K.out.ltp 1 rfl
  go_wp2_with (first|(go_at_call 31;(with_reducible refine ((AL _).out).mono ?_);rintro e w1 ⟨rfl,hb⟩;have K1:=sat.grown (by repeat (with_reducible first|exact K.out|apply sat.alloc_any|apply sat.drew|apply sat.drewN)) hb;clear hb;have K2:=Lib.hid K1;clear K1 K;(try clear a0 l0);(try clear a1 l1);(try clear a2 l2);have K:=K2;clear K2;have a0:=K.out.rd 0 rfl;have l0:=K.out.ltp 0 rfl;have a1:=K.out.rd 1 rfl;have l1:=K.out.ltp 1 rfl)|(go_at_call 92;(with_reducible refine ((RI _).out).mono ?_);rintro e w1 ⟨rfl,hb⟩;have K1:=sat.grown (by repeat (with_reducible first|exact K.out|apply sat.alloc_any|apply sat.drew|apply sat.drewN)) hb;clear hb;have K2:=Lib.hid K1;clear K1 K;(try clear a0 l0);(try clear a1 l1);(try clear a2 l2);have K:=K2;clear K2;have a0:=K.out.rd 0 rfl;have l0:=K.out.ltp 0 rfl;have a1:=K.out.rd 1 rfl;have l1:=K.out.ltp 1 rfl;have a2:=K.out.rd 2 rfl;have l2:=K.out.ltp 2 rfl;have a3:=K.out.rd 3 rfl;have l3:=K.out.ltp 3 rfl;have a4:=K.out.rd 4 rfl;have l4:=K.out.ltp 4 rfl;have a5:=K.out.rd 5 rfl;have l5:=K.out.ltp 5 rfl)|(have _hp:=g14;((with_reducible refine at_alloc ?_);refine st_allocf K.out (fun _=>rfl) ?_;intro g15 w1 K1;have K2:=Lib.hid K1;clear K1 K;(try clear a0 l0);(try clear a1 l1);(try clear a2 l2);have K:=K2;clear K2;have a0:=K.out.rd 0 rfl;have l0:=K.out.ltp 0 rfl;have a1:=K.out.rd 1 rfl;have l1:=K.out.ltp 1 rfl;have a2:=K.out.rd 2 rfl;have l2:=K.out.ltp 2 rfl;have a3:=K.out.rd 3 rfl;have l3:=K.out.ltp 3 rfl;have a4:=K.out.rd 4 rfl;have l4:=K.out.ltp 4 rfl;have a5:=K.out.rd 5 rfl;have l5:=K.out.ltp 5 rfl))|(have _hp:=g12;((with_reducible refine at_alloc ?_);refine st_allocf K.out (fun _=>rfl) ?_;intro g14 w1 K1;have K2:=Lib.hid K1;clear K1 K;(try clear a0 l0);(try clear a1 l1);(try clear a2 l2);have K:=K2;clear K2;have a0:=K.out.rd 0 rfl;have l0:=K.out.ltp 0 rfl;have a1:=K.out.rd 1 rfl;have l1:=K.out.ltp 1 rfl;have a2:=K.out.rd 2 rfl;have l2:=K.out.ltp 2 rfl;have a3:=K.out.rd 3 rfl;have l3:=K.out.ltp 3 rfl;have a4:=K.out.rd 4 rfl;have l4:=K.out.ltp 4 rfl))|(have _hp:=g11;((with_reducible refine at_alloc ?_);refine st_allocf K.out (fun _=>rfl) ?_;intro g12 w1 K1;have K2:=Lib.hid K1;clear K1 K;(try clear a0 l0);(try clear a1 l1);(try clear a2 l2);have K:=K2;clear K2;have a0:=K.out.rd 0 rfl;have l0:=K.out.ltp 0 rfl;have a1:=K.out.rd 1 rfl;have l1:=K.out.ltp 1 rfl;have a2:=K.out.rd 2 rfl;have l2:=K.out.ltp 2 rfl;have a3:=K.out.rd 3 rfl;have l3:=K.out.ltp 3 rfl))|((with_reducible refine at_alloc ?_);refine st_allocf K.out (fun _=>rfl) ?_;intro g11 w1 K1;have K2:=Lib.hid K1;clear K1 K;(try clear a0 l0);(try clear a1 l1);(try clear a2 l2);have K:=K2;clear K2;have a0:=K.out.rd 0 rfl;have l0:=K.out.ltp 0 rfl;have a1:=K.out.rd 1 rfl;have l1:=K.out.ltp 1 rfl;have a2:=K.out.rd 2 rfl;have l2:=K.out.ltp 2 rfl)|(have _hp:=g11;(go_at_call 91;(with_reducible refine ((N _).out).mono ?_);rintro e w1 ⟨rfl,hb⟩;have K1:=sat.grown (by repeat (with_reducible first|exact K.out|apply sat.alloc_any|apply sat.drew|apply sat.drewN)) hb;clear hb;have K2:=Lib.hid K1;clear K1 K;(try clear a0 l0);(try clear a1 l1);(try clear a2 l2);have K:=K2;clear K2;have a0:=K.out.rd 0 rfl;have l0:=K.out.ltp 0 rfl;have a1:=K.out.rd 1 rfl;have l1:=K.out.ltp 1 rfl;have a2:=K.out.rd 2 rfl;have l2:=K.out.ltp 2 rfl))|(go_at_call 91;(with_reducible refine ((W _).out).mono ?_);rintro e w1 ⟨rfl,hb⟩;have K1:=sat.grown (by repeat (with_reducible first|exact K.out|apply sat.alloc_any|apply sat.drew|apply sat.drewN)) hb;clear hb;have K2:=Lib.hid K1;clear K1 K;(try clear a0 l0);(try clear a1 l1);(try clear a2 l2);have K:=K2;clear K2;have a0:=K.out.rd 0 rfl;have l0:=K.out.ltp 0 rfl;have a1:=K.out.rd 1 rfl;have l1:=K.out.ltp 1 rfl)|(have _hp:=g15;((with_reducible refine at_store ?_);refine st_store 0 K.out rfl rfl rfl rfl ?_ ?_ ?_ ?_;(· kernel_rfl);(· simp);(· simp [Value.oneCell']);intro w1 K1;simp only [List.set,putL] at K1;have K2:=Lib.hid K1;clear K1 K;(try clear a0 l0);(try clear a1 l1);(try clear a2 l2);have K:=K2;clear K2;have a0:=K.out.rd 0 rfl;have l0:=K.out.ltp 0 rfl;have a1:=K.out.rd 1 rfl;have l1:=K.out.ltp 1 rfl;have a2:=K.out.rd 2 rfl;have l2:=K.out.ltp 2 rfl;have a3:=K.out.rd 3 rfl;have l3:=K.out.ltp 3 rfl;have a4:=K.out.rd 4 rfl;have l4:=K.out.ltp 4 rfl;have a5:=K.out.rd 5 rfl;have l5:=K.out.ltp 5 rfl))|(have _hp:=g14;(fail_if_success (have _hq:=g15));((with_reducible refine at_store ?_);refine st_store 0 K.out rfl rfl rfl rfl ?_ ?_ ?_ ?_;(· kernel_rfl);(· simp);(· simp [Value.oneCell']);intro w1 K1;simp only [List.set,putL] at K1;have K2:=Lib.hid K1;clear K1 K;(try clear a0 l0);(try clear a1 l1);(try clear a2 l2);have K:=K2;clear K2;have a0:=K.out.rd 0 rfl;have l0:=K.out.ltp 0 rfl;have a1:=K.out.rd 1 rfl;have l1:=K.out.ltp 1 rfl;have a2:=K.out.rd 2 rfl;have l2:=K.out.ltp 2 rfl;have a3:=K.out.rd 3 rfl;have l3:=K.out.ltp 3 rfl;have a4:=K.out.rd 4 rfl;have l4:=K.out.ltp 4 rfl))|(have _hp:=g12;(fail_if_success (have _hq:=g14));((with_reducible refine at_store ?_);refine st_store 0 K.out rfl rfl rfl rfl ?_ ?_ ?_ ?_;(· kernel_rfl);(· simp);(· simp [Value.oneCell']);intro w1 K1;simp only [List.set,putL] at K1;have K2:=Lib.hid K1;clear K1 K;(try clear a0 l0);(try clear a1 l1);(try clear a2 l2);have K:=K2;clear K2;have a0:=K.out.rd 0 rfl;have l0:=K.out.ltp 0 rfl;have a1:=K.out.rd 1 rfl;have l1:=K.out.ltp 1 rfl;have a2:=K.out.rd 2 rfl;have l2:=K.out.ltp 2 rfl;have a3:=K.out.rd 3 rfl;have l3:=K.out.ltp 3 rfl))|(have _hp:=g11;(fail_if_success (have _hq:=g12));((with_reducible refine at_store ?_);refine st_store 0 K.out rfl rfl rfl rfl ?_ ?_ ?_ ?_;(· kernel_rfl);(· simp);(· simp [Value.oneCell']);intro w1 K1;simp only [List.set,putL] at K1;have K2:=Lib.hid K1;clear K1 K;(try clear a0 l0);(try clear a1 l1);(try clear a2 l2);have K:=K2;clear K2;have a0:=K.out.rd 0 rfl;have l0:=K.out.ltp 0 rfl;have a1:=K.out.rd 1 rfl;have l1:=K.out.ltp 1 rfl;have a2:=K.out.rd 2 rfl;have l2:=K.out.ltp 2 rfl)))
  refine wp_region_noPanic ?_
  refine wp_region_held_drew (S:=(fun w'=>(∀ j,w'.cell? ⟨ge,j,none⟩ = e.v[j]?) ∧ (∀ j,w'.cell? ⟨gc,j,none⟩ = [Value.int .i64 c.th,.int .i64 c.sl,.int .i64 c.src,.int .i64 c.dl][j]?))) (by kernel_rfl) ?_ (fun hHeld=>?_)
  · ((try dsimp only);(first|exact ⟨K.out.rd 2 rfl,K.out.rd 3 rfl⟩|exact ⟨K.out.drew.rd 2 rfl,K.out.drew.rd 3 rfl⟩))
  refine tk 0 (some 74) ?_
  try simp only[Act.put,p0,p1,p2]
  refine tk 1 (some 75) ?_
  try simp only[Act.put,p0,p1,p2]
  refine tk 2 (some 76) ?_
  try simp only[Act.put,p0,p1,p2]
  refine tk 3 (some 77) ?_
  try simp only[Act.put,p0,p1,p2]
  refine tk 4 (some 78) ?_
  try simp only[Act.put,p0,p1,p2]
  refine tk 5 (some 79) ?_
  try simp only[Act.put,p0,p1,p2]
  refine tk 6 (some 80) ?_
  try simp only[Act.put,p0,p1,p2]
  refine tk 7 (some 81) ?_
  try simp only[Act.put,p0,p1,p2]
  refine tk 8 (some 13) ?_
  try simp only[Act.put,p0,p1,p2]
  have K1:=K.out;have K2:=Lib.hid K1;clear K1 K;(try clear a0 l0);(try clear f0);(try clear a1 l1);(try clear f1);(try clear a2 l2);(try clear f2);(try clear a3 l3);(try clear f3);(try clear a4 l4);(try clear f4);(try clear a5 l5);(try clear f5);have K:=K2;clear K2;(try have a0:=K.out.rd 0 rfl);(try have l0:=K.out.ltp 0 rfl);(try have f0:=K.out.fr 0 rfl);(try have a1:=K.out.rd 1 rfl);(try have l1:=K.out.ltp 1 rfl);(try have f1:=K.out.fr 1 rfl);(try have a2:=K.out.rd 2 rfl);(try have l2:=K.out.ltp 2 rfl);(try have f2:=K.out.fr 2 rfl);(try have a3:=K.out.rd 3 rfl);(try have l3:=K.out.ltp 3 rfl);(try have f3:=K.out.fr 3 rfl)
  refine wpAnyH_done (by kernel_rfl) (NoPanic.normal ?_) _
  (have K1 : sat w _ _:=K.out.drew;clear K;(try clear a0 l0);(try clear a1 l1);(try clear a2 l2);(try clear a3 l3);have K:=Lib.hid K1;clear K1)
  have a0:=K.out.rd 0 rfl
  have l0:=K.out.ltp 0 rfl
  have a1:=K.out.rd 1 rfl
  have l1:=K.out.ltp 1 rfl
  have a2:=K.out.rd 2 rfl
  have l2:=K.out.ltp 2 rfl
  have a3:=K.out.rd 3 rfl
  have l3:=K.out.ltp 3 rfl
  go_wp2_with (first|(go_at_call 31;(with_reducible refine ((AL _).out).mono ?_);rintro e w1 ⟨rfl,hb⟩;have K1:=sat.grown (by repeat (with_reducible first|exact K.out|apply sat.alloc_any|apply sat.drew|apply sat.drewN)) hb;clear hb;have K2:=Lib.hid K1;clear K1 K;(try clear a0 l0);(try clear a1 l1);(try clear a2 l2);have K:=K2;clear K2;have a0:=K.out.rd 0 rfl;have l0:=K.out.ltp 0 rfl;have a1:=K.out.rd 1 rfl;have l1:=K.out.ltp 1 rfl)|(go_at_call 92;(with_reducible refine ((RI _).out).mono ?_);rintro e w1 ⟨rfl,hb⟩;have K1:=sat.grown (by repeat (with_reducible first|exact K.out|apply sat.alloc_any|apply sat.drew|apply sat.drewN)) hb;clear hb;have K2:=Lib.hid K1;clear K1 K;(try clear a0 l0);(try clear a1 l1);(try clear a2 l2);have K:=K2;clear K2;have a0:=K.out.rd 0 rfl;have l0:=K.out.ltp 0 rfl;have a1:=K.out.rd 1 rfl;have l1:=K.out.ltp 1 rfl;have a2:=K.out.rd 2 rfl;have l2:=K.out.ltp 2 rfl;have a3:=K.out.rd 3 rfl;have l3:=K.out.ltp 3 rfl;have a4:=K.out.rd 4 rfl;have l4:=K.out.ltp 4 rfl;have a5:=K.out.rd 5 rfl;have l5:=K.out.ltp 5 rfl)|(have _hp:=g14;((with_reducible refine at_alloc ?_);refine st_allocf K.out (fun _=>rfl) ?_;intro g15 w1 K1;have K2:=Lib.hid K1;clear K1 K;(try clear a0 l0);(try clear a1 l1);(try clear a2 l2);have K:=K2;clear K2;have a0:=K.out.rd 0 rfl;have l0:=K.out.ltp 0 rfl;have a1:=K.out.rd 1 rfl;have l1:=K.out.ltp 1 rfl;have a2:=K.out.rd 2 rfl;have l2:=K.out.ltp 2 rfl;have a3:=K.out.rd 3 rfl;have l3:=K.out.ltp 3 rfl;have a4:=K.out.rd 4 rfl;have l4:=K.out.ltp 4 rfl;have a5:=K.out.rd 5 rfl;have l5:=K.out.ltp 5 rfl))|(have _hp:=g12;((with_reducible refine at_alloc ?_);refine st_allocf K.out (fun _=>rfl) ?_;intro g14 w1 K1;have K2:=Lib.hid K1;clear K1 K;(try clear a0 l0);(try clear a1 l1);(try clear a2 l2);have K:=K2;clear K2;have a0:=K.out.rd 0 rfl;have l0:=K.out.ltp 0 rfl;have a1:=K.out.rd 1 rfl;have l1:=K.out.ltp 1 rfl;have a2:=K.out.rd 2 rfl;have l2:=K.out.ltp 2 rfl;have a3:=K.out.rd 3 rfl;have l3:=K.out.ltp 3 rfl;have a4:=K.out.rd 4 rfl;have l4:=K.out.ltp 4 rfl))|(have _hp:=g11;((with_reducible refine at_alloc ?_);refine st_allocf K.out (fun _=>rfl) ?_;intro g12 w1 K1;have K2:=Lib.hid K1;clear K1 K;(try clear a0 l0);(try clear a1 l1);(try clear a2 l2);have K:=K2;clear K2;have a0:=K.out.rd 0 rfl;have l0:=K.out.ltp 0 rfl;have a1:=K.out.rd 1 rfl;have l1:=K.out.ltp 1 rfl;have a2:=K.out.rd 2 rfl;have l2:=K.out.ltp 2 rfl;have a3:=K.out.rd 3 rfl;have l3:=K.out.ltp 3 rfl))|((with_reducible refine at_alloc ?_);refine st_allocf K.out (fun _=>rfl) ?_;intro g11 w1 K1;have K2:=Lib.hid K1;clear K1 K;(try clear a0 l0);(try clear a1 l1);(try clear a2 l2);have K:=K2;clear K2;have a0:=K.out.rd 0 rfl;have l0:=K.out.ltp 0 rfl;have a1:=K.out.rd 1 rfl;have l1:=K.out.ltp 1 rfl;have a2:=K.out.rd 2 rfl;have l2:=K.out.ltp 2 rfl)|(have _hp:=g11;(go_at_call 91;(with_reducible refine ((N _).out).mono ?_);rintro e w1 ⟨rfl,hb⟩;have K1:=sat.grown (by repeat (with_reducible first|exact K.out|apply sat.alloc_any|apply sat.drew|apply sat.drewN)) hb;clear hb;have K2:=Lib.hid K1;clear K1 K;(try clear a0 l0);(try clear a1 l1);(try clear a2 l2);have K:=K2;clear K2;have a0:=K.out.rd 0 rfl;have l0:=K.out.ltp 0 rfl;have a1:=K.out.rd 1 rfl;have l1:=K.out.ltp 1 rfl;have a2:=K.out.rd 2 rfl;have l2:=K.out.ltp 2 rfl))|(go_at_call 91;(with_reducible refine ((W _).out).mono ?_);rintro e w1 ⟨rfl,hb⟩;have K1:=sat.grown (by repeat (with_reducible first|exact K.out|apply sat.alloc_any|apply sat.drew|apply sat.drewN)) hb;clear hb;have K2:=Lib.hid K1;clear K1 K;(try clear a0 l0);(try clear a1 l1);(try clear a2 l2);have K:=K2;clear K2;have a0:=K.out.rd 0 rfl;have l0:=K.out.ltp 0 rfl;have a1:=K.out.rd 1 rfl;have l1:=K.out.ltp 1 rfl)|(have _hp:=g15;((with_reducible refine at_store ?_);refine st_store 0 K.out rfl rfl rfl rfl ?_ ?_ ?_ ?_;(· kernel_rfl);(· simp);(· simp [Value.oneCell']);intro w1 K1;simp only [List.set,putL] at K1;have K2:=Lib.hid K1;clear K1 K;(try clear a0 l0);(try clear a1 l1);(try clear a2 l2);have K:=K2;clear K2;have a0:=K.out.rd 0 rfl;have l0:=K.out.ltp 0 rfl;have a1:=K.out.rd 1 rfl;have l1:=K.out.ltp 1 rfl;have a2:=K.out.rd 2 rfl;have l2:=K.out.ltp 2 rfl;have a3:=K.out.rd 3 rfl;have l3:=K.out.ltp 3 rfl;have a4:=K.out.rd 4 rfl;have l4:=K.out.ltp 4 rfl;have a5:=K.out.rd 5 rfl;have l5:=K.out.ltp 5 rfl))|(have _hp:=g14;(fail_if_success (have _hq:=g15));((with_reducible refine at_store ?_);refine st_store 0 K.out rfl rfl rfl rfl ?_ ?_ ?_ ?_;(· kernel_rfl);(· simp);(· simp [Value.oneCell']);intro w1 K1;simp only [List.set,putL] at K1;have K2:=Lib.hid K1;clear K1 K;(try clear a0 l0);(try clear a1 l1);(try clear a2 l2);have K:=K2;clear K2;have a0:=K.out.rd 0 rfl;have l0:=K.out.ltp 0 rfl;have a1:=K.out.rd 1 rfl;have l1:=K.out.ltp 1 rfl;have a2:=K.out.rd 2 rfl;have l2:=K.out.ltp 2 rfl;have a3:=K.out.rd 3 rfl;have l3:=K.out.ltp 3 rfl;have a4:=K.out.rd 4 rfl;have l4:=K.out.ltp 4 rfl))|(have _hp:=g12;(fail_if_success (have _hq:=g14));((with_reducible refine at_store ?_);refine st_store 0 K.out rfl rfl rfl rfl ?_ ?_ ?_ ?_;(· kernel_rfl);(· simp);(· simp [Value.oneCell']);intro w1 K1;simp only [List.set,putL] at K1;have K2:=Lib.hid K1;clear K1 K;(try clear a0 l0);(try clear a1 l1);(try clear a2 l2);have K:=K2;clear K2;have a0:=K.out.rd 0 rfl;have l0:=K.out.ltp 0 rfl;have a1:=K.out.rd 1 rfl;have l1:=K.out.ltp 1 rfl;have a2:=K.out.rd 2 rfl;have l2:=K.out.ltp 2 rfl;have a3:=K.out.rd 3 rfl;have l3:=K.out.ltp 3 rfl))|(have _hp:=g11;(fail_if_success (have _hq:=g12));((with_reducible refine at_store ?_);refine st_store 0 K.out rfl rfl rfl rfl ?_ ?_ ?_ ?_;(· kernel_rfl);(· simp);(· simp [Value.oneCell']);intro w1 K1;simp only [List.set,putL] at K1;have K2:=Lib.hid K1;clear K1 K;(try clear a0 l0);(try clear a1 l1);(try clear a2 l2);have K:=K2;clear K2;have a0:=K.out.rd 0 rfl;have l0:=K.out.ltp 0 rfl;have a1:=K.out.rd 1 rfl;have l1:=K.out.ltp 1 rfl;have a2:=K.out.rd 2 rfl;have l2:=K.out.ltp 2 rfl)))
  all_goals (go_ret;exact ⟨ret_b (by simp_all),(show sat w _ _ from by first|exact K.out|exact K.out.drew).below⟩)
theorem lmay_word1 (c : ConfM) (hc : c.ok) (p : Option Addr) (l : List Ev) (cap : Nat) (e : Ev) (w : World) (hl : l.length ≤ 1000000) (hwf : ∀ e ∈ l,Ev.wf e) (he : Ev.wf e) (h : OldE w p l) (h0 : 0 ≤ e.who) (h1 : e.who < c.th) (h2 : 0 ≤ e.cell) (h3 : e.cell < c.cells) (h4 : e.old = lastM l e.cell) (hkd : e.cell < c.all) (ho : e.op = 1) :
    Tells 66 #[.agg #[.int .i64 c.th,.int .i64 c.sl,.int .i64 c.src,.int .i64 c.dl],.slice p l.length cap,.agg e.v.toArray] w (.bool (wordB c e e.cell)):=by
  have K:=Lib.hid (sat.start w)
  have CN:=fun w'=>Lib.hid (cellsn_calls c w' hc)
  have AL:=fun w'=>Lib.hid (all_calls c w' hc)
  have HB:=Lib.hid h
  have LA:=fun w' x (hb : Below w.heap.size w w')=>Lib.hid (last_calls p l cap x w' hl (h.grown hb))
  have hal:=hc.all_bd
  have hth1:=hc.th1
  have hth2:=hc.th2
  have hsl:=hc.sl1
  have hcl : c.cells = 2 * c.all + 2 * c.th:=rfl
  unfold wordB
  rw [next_iff,taken_iff]
  have W:=fun w'=>Lib.hid (unpack_lay e.old he.2.2.1.1 he.2.2.1.2 w')
  have N:=fun w'=>Lib.hid (unpack_lay e.new he.2.2.2.1 he.2.2.2.2 w')
  have gb : 0 ≤ (unpack e.old).gen ∧ (unpack e.old).gen ≤ 100000:=by unfold unpack;dsimp only;omega
  have RI:=fun w'=>Lib.hid (sright_calls (unpack e.new).stamp w')
  generalize unpack e.old = was at *
  generalize unpack e.new = now at *
  have ow : IntKind.i64.wrap (Int.tdiv e.cell c.sl) = ownerM c e.cell:=by
    unfold ownerM
    rw [Int.tdiv_eq_ediv_of_nonneg h2]
    have:=Int.ediv_le_self c.sl h2
    have:=Int.ediv_nonneg h2 (b:=c.sl) (by omega)
    exact wi (by omega) (by omega)
  have z0 : (c.sl == 0) = false:=by simp;omega
  have z1 : ¬ c.sl = 0:=by omega
  generalize ownerM c e.cell = own at *
  have t6 : decide (e.cell < c.all) = true:=by simpa using hkd
  have o0 : (e.op == 0) = false:=by simp [ho]
  have o1 : (e.op == 1) = true:=by simp [ho]
  have o2 : (e.op == 2) = false:=by simp [ho]
  have t5 : (e.old != lastM l e.cell) = false:=by simp [h4]
  have t1 : decide (e.who < 0) = false:=by simp;omega
  have t2 : decide (e.who ≥ c.th) = false:=by simp;omega
  have t3 : decide (e.cell < 0) = false:=by simp;omega
  have t4 : decide (e.cell ≥ c.cells) = false:=by simp;omega
  clear h hwf he hcl hc hl h0 h1 h2 h3 h4 hkd ho
  go_enter Tryz.func66,Tryz.ntmps66
  go_wp2_with (first|(have _hp:=gc;((with_reducible refine at_box ?_);refine st_boxf K.out rfl rfl (fun _=>rfl) ?_;intro ge w1 K1;have K2:=Lib.hid K1;clear K1 K;(try clear a0 l0);(try clear a1 l1);(try clear a2 l2);have K:=K2;clear K2;have a0:=K.out.rd 0 rfl;have l0:=K.out.ltp 0 rfl;have a1:=K.out.rd 1 rfl;have l1:=K.out.ltp 1 rfl))|((with_reducible refine at_box ?_);refine st_boxf K.out rfl rfl (fun _=>rfl) ?_;intro gc w1 K1;have K2:=Lib.hid K1;clear K1 K;(try clear a0 l0);(try clear a1 l1);(try clear a2 l2);have K:=K2;clear K2;have a0:=K.out.rd 0 rfl;have l0:=K.out.ltp 0 rfl))
  refine wp_region_noPanic ?_
  refine wp_region_held_drew (S:=(fun w'=>(∀ j,w'.cell? ⟨ge,j,none⟩ = e.v[j]?) ∧ (∀ j,w'.cell? ⟨gc,j,none⟩ = [Value.int .i64 c.th,.int .i64 c.sl,.int .i64 c.src,.int .i64 c.dl][j]?))) (by kernel_rfl) ?_ (fun hHeld=>?_)
  · ((try dsimp only);(refine lawS (E:=w) (M:=[]) ?_;first|exact K.out|exact K.out.drew))
  refine tk 0 (some 21) ?_
  try simp only[Act.put,p0,p1,p2]
  refine tk 1 (some 22) ?_
  try simp only[Act.put,p0,p1,p2]
  refine tk 2 (some 23) ?_
  try simp only[Act.put,p0,p1,p2]
  refine tk 3 (some 24) ?_
  try simp only[Act.put,p0,p1,p2]
  refine tk 4 (some 25) ?_
  try simp only[Act.put,p0,p1,p2]
  refine tk 5 (some 26) ?_
  try simp only[Act.put,p0,p1,p2]
  refine tk 6 (some 27) ?_
  try simp only[Act.put,p0,p1,p2]
  refine tk 7 (some 28) ?_
  try simp only[Act.put,p0,p1,p2]
  refine tk 8 (some 29) ?_
  try simp only[Act.put,p0,p1,p2]
  refine tk 9 (some 30) ?_
  try simp only[Act.put,p0,p1,p2]
  refine tk 10 (some 31) ?_
  try simp only[Act.put,p0,p1,p2]
  refine tk 11 (some 32) ?_
  try simp only[Act.put,p0,p1,p2]
  refine tk 12 (some 33) ?_
  try simp only[Act.put,p0,p1,p2]
  refine tk 13 (some 34) ?_
  try simp only[Act.put,p0,p1,p2]
  refine tk 14 (some 35) ?_
  try simp only[Act.put,p0,p1,p2]
  refine tk 15 (some 36) ?_
  try simp only[Act.put,p0,p1,p2]
  refine tk 16 (some 37) ?_
  try simp only[Act.put,p0,p1,p2]
  refine tk 17 (some 38) ?_
  try simp only[Act.put,p0,p1,p2]
  refine tk 18 (some 39) ?_
  try simp only[Act.put,p0,p1,p2]
  refine wpAnyH_ready (rs:=[19]) (by kernel_rfl) (by simp) ?_
  refine AllReadyH.cons (o:=_) rfl (fun kC hkC=>?_) AllReadyH.nil
  go_simp
  (first|((first|(go_at_call 18;(with_reducible refine ((CN _).out).mono ?_))|(go_at_call 90;(with_reducible refine ((LA _ _ K.out.below).out).mono ?_))|(go_at_call 90;(with_reducible refine ((LA _ _ K.out.drew.below).out).mono ?_)));rintro e w1 ⟨rfl,hb⟩;have K1:=sat.grown (show sat _ _ _ from by first|exact K.out|exact K.out.drew) hb;clear hb;have K2:=Lib.hid K1;clear K1 K;have K:=K2;clear K2))
  refine shown hkC _ _ (by (try dsimp only);(refine lawS (E:=w) (M:=[]) ?_;first|exact K.out|exact K.out.drew)) ?_;clear hkC kC hHeld;intro hHeld
  try simp only[Act.put,p0,p1,p2]
  refine tk 20 (some 41) ?_
  try simp only[Act.put,p0,p1,p2]
  refine tk 21 (some 42) ?_
  try simp only[Act.put,p0,p1,p2]
  refine tk 22 (some 43) ?_
  try simp only[Act.put,p0,p1,p2]
  refine tk 23 (some 44) ?_
  try simp only[Act.put,p0,p1,p2]
  refine tk 24 (some 45) ?_
  try simp only[Act.put,p0,p1,p2]
  refine tk 25 (some 46) ?_
  try simp only[Act.put,p0,p1,p2]
  refine tk 26 (some 47) ?_
  try simp only[Act.put,p0,p1,p2]
  refine tk 27 (some 48) ?_
  try simp only[Act.put,p0,p1,p2]
  refine wpAnyH_ready (rs:=[28]) (by kernel_rfl) (by simp) ?_
  refine AllReadyH.cons (o:=_) rfl (fun kC hkC=>?_) AllReadyH.nil
  go_simp
  (first|((first|(go_at_call 18;(with_reducible refine ((CN _).out).mono ?_))|(go_at_call 90;(with_reducible refine ((LA _ _ K.out.below).out).mono ?_))|(go_at_call 90;(with_reducible refine ((LA _ _ K.out.drew.below).out).mono ?_)));rintro e w1 ⟨rfl,hb⟩;have K1:=sat.grown (show sat _ _ _ from by first|exact K.out|exact K.out.drew) hb;clear hb;have K2:=Lib.hid K1;clear K1 K;have K:=K2;clear K2))
  refine shown hkC _ _ (by (try dsimp only);(refine lawS (E:=w) (M:=[]) ?_;first|exact K.out|exact K.out.drew)) ?_;clear hkC kC hHeld;intro hHeld
  try simp only[Act.put,p0,p1,p2]
  refine tk 29 (some 50) ?_
  try simp only[Act.put,p0,p1,p2]
  refine tk 30 (some 51) ?_
  try simp only[Act.put,p0,p1,p2]
  have K1:=K.out;have K2:=Lib.hid K1;clear K1 K;(try clear a0 l0);(try clear f0);(try clear a1 l1);(try clear f1);(try clear a2 l2);(try clear f2);(try clear a3 l3);(try clear f3);(try clear a4 l4);(try clear f4);(try clear a5 l5);(try clear f5);have K:=K2;clear K2;(try have a0:=K.out.rd 0 rfl);(try have l0:=K.out.ltp 0 rfl);(try have f0:=K.out.fr 0 rfl);(try have a1:=K.out.rd 1 rfl);(try have l1:=K.out.ltp 1 rfl);(try have f1:=K.out.fr 1 rfl);(try have a2:=K.out.rd 2 rfl);(try have l2:=K.out.ltp 2 rfl);(try have f2:=K.out.fr 2 rfl);(try have a3:=K.out.rd 3 rfl);(try have l3:=K.out.ltp 3 rfl);(try have f3:=K.out.fr 3 rfl)
  refine wpAnyH_done (by kernel_rfl) (NoPanic.normal ?_) _
  (have K1 : sat w _ _:=(by first|exact K.out|exact K.out.drew);clear K;(try clear a0 l0);(try clear a1 l1);have K:=Lib.hid K1;clear K1)
  have a0:=K.out.rd 0 rfl
  have l0:=K.out.ltp 0 rfl
  have a1:=K.out.rd 1 rfl
  have l1:=K.out.ltp 1 rfl
  go_wp2_with (first|(go_at_call 31;(with_reducible refine ((AL _).out).mono ?_);rintro e w1 ⟨rfl,hb⟩;have K1:=sat.grown (by repeat (with_reducible first|exact K.out|apply sat.alloc_any|apply sat.drew|apply sat.drewN)) hb;clear hb;have K2:=Lib.hid K1;clear K1 K;(try clear a0 l0);(try clear a1 l1);(try clear a2 l2);have K:=K2;clear K2;have a0:=K.out.rd 0 rfl;have l0:=K.out.ltp 0 rfl;have a1:=K.out.rd 1 rfl;have l1:=K.out.ltp 1 rfl)|(go_at_call 92;(with_reducible refine ((RI _).out).mono ?_);rintro e w1 ⟨rfl,hb⟩;have K1:=sat.grown (by repeat (with_reducible first|exact K.out|apply sat.alloc_any|apply sat.drew|apply sat.drewN)) hb;clear hb;have K2:=Lib.hid K1;clear K1 K;(try clear a0 l0);(try clear a1 l1);(try clear a2 l2);have K:=K2;clear K2;have a0:=K.out.rd 0 rfl;have l0:=K.out.ltp 0 rfl;have a1:=K.out.rd 1 rfl;have l1:=K.out.ltp 1 rfl;have a2:=K.out.rd 2 rfl;have l2:=K.out.ltp 2 rfl;have a3:=K.out.rd 3 rfl;have l3:=K.out.ltp 3 rfl;have a4:=K.out.rd 4 rfl;have l4:=K.out.ltp 4 rfl;have a5:=K.out.rd 5 rfl;have l5:=K.out.ltp 5 rfl)|(have _hp:=g14;((with_reducible refine at_alloc ?_);refine st_allocf K.out (fun _=>rfl) ?_;intro g15 w1 K1;have K2:=Lib.hid K1;clear K1 K;(try clear a0 l0);(try clear a1 l1);(try clear a2 l2);have K:=K2;clear K2;have a0:=K.out.rd 0 rfl;have l0:=K.out.ltp 0 rfl;have a1:=K.out.rd 1 rfl;have l1:=K.out.ltp 1 rfl;have a2:=K.out.rd 2 rfl;have l2:=K.out.ltp 2 rfl;have a3:=K.out.rd 3 rfl;have l3:=K.out.ltp 3 rfl;have a4:=K.out.rd 4 rfl;have l4:=K.out.ltp 4 rfl;have a5:=K.out.rd 5 rfl;have l5:=K.out.ltp 5 rfl))|(have _hp:=g12;((with_reducible refine at_alloc ?_);refine st_allocf K.out (fun _=>rfl) ?_;intro g14 w1 K1;have K2:=Lib.hid K1;clear K1 K;(try clear a0 l0);(try clear a1 l1);(try clear a2 l2);have K:=K2;clear K2;have a0:=K.out.rd 0 rfl;have l0:=K.out.ltp 0 rfl;have a1:=K.out.rd 1 rfl;have l1:=K.out.ltp 1 rfl;have a2:=K.out.rd 2 rfl;have l2:=K.out.ltp 2 rfl;have a3:=K.out.rd 3 rfl;have l3:=K.out.ltp 3 rfl;have a4:=K.out.rd 4 rfl;have l4:=K.out.ltp 4 rfl))|(have _hp:=g11;((with_reducible refine at_alloc ?_);refine st_allocf K.out (fun _=>rfl) ?_;intro g12 w1 K1;have K2:=Lib.hid K1;clear K1 K;(try clear a0 l0);(try clear a1 l1);(try clear a2 l2);have K:=K2;clear K2;have a0:=K.out.rd 0 rfl;have l0:=K.out.ltp 0 rfl;have a1:=K.out.rd 1 rfl;have l1:=K.out.ltp 1 rfl;have a2:=K.out.rd 2 rfl;have l2:=K.out.ltp 2 rfl;have a3:=K.out.rd 3 rfl;have l3:=K.out.ltp 3 rfl))|((with_reducible refine at_alloc ?_);refine st_allocf K.out (fun _=>rfl) ?_;intro g11 w1 K1;have K2:=Lib.hid K1;clear K1 K;(try clear a0 l0);(try clear a1 l1);(try clear a2 l2);have K:=K2;clear K2;have a0:=K.out.rd 0 rfl;have l0:=K.out.ltp 0 rfl;have a1:=K.out.rd 1 rfl;have l1:=K.out.ltp 1 rfl;have a2:=K.out.rd 2 rfl;have l2:=K.out.ltp 2 rfl)|(have _hp:=g11;(go_at_call 91;(with_reducible refine ((N _).out).mono ?_);rintro e w1 ⟨rfl,hb⟩;have K1:=sat.grown (by repeat (with_reducible first|exact K.out|apply sat.alloc_any|apply sat.drew|apply sat.drewN)) hb;clear hb;have K2:=Lib.hid K1;clear K1 K;(try clear a0 l0);(try clear a1 l1);(try clear a2 l2);have K:=K2;clear K2;have a0:=K.out.rd 0 rfl;have l0:=K.out.ltp 0 rfl;have a1:=K.out.rd 1 rfl;have l1:=K.out.ltp 1 rfl;have a2:=K.out.rd 2 rfl;have l2:=K.out.ltp 2 rfl))|(go_at_call 91;(with_reducible refine ((W _).out).mono ?_);rintro e w1 ⟨rfl,hb⟩;have K1:=sat.grown (by repeat (with_reducible first|exact K.out|apply sat.alloc_any|apply sat.drew|apply sat.drewN)) hb;clear hb;have K2:=Lib.hid K1;clear K1 K;(try clear a0 l0);(try clear a1 l1);(try clear a2 l2);have K:=K2;clear K2;have a0:=K.out.rd 0 rfl;have l0:=K.out.ltp 0 rfl;have a1:=K.out.rd 1 rfl;have l1:=K.out.ltp 1 rfl)|(have _hp:=g15;((with_reducible refine at_store ?_);refine st_store 0 K.out rfl rfl rfl rfl ?_ ?_ ?_ ?_;(· kernel_rfl);(· simp);(· simp [Value.oneCell']);intro w1 K1;simp only [List.set,putL] at K1;have K2:=Lib.hid K1;clear K1 K;(try clear a0 l0);(try clear a1 l1);(try clear a2 l2);have K:=K2;clear K2;have a0:=K.out.rd 0 rfl;have l0:=K.out.ltp 0 rfl;have a1:=K.out.rd 1 rfl;have l1:=K.out.ltp 1 rfl;have a2:=K.out.rd 2 rfl;have l2:=K.out.ltp 2 rfl;have a3:=K.out.rd 3 rfl;have l3:=K.out.ltp 3 rfl;have a4:=K.out.rd 4 rfl;have l4:=K.out.ltp 4 rfl;have a5:=K.out.rd 5 rfl;have l5:=K.out.ltp 5 rfl))|(have _hp:=g14;(fail_if_success (have _hq:=g15));((with_reducible refine at_store ?_);refine st_store 0 K.out rfl rfl rfl rfl ?_ ?_ ?_ ?_;(· kernel_rfl);(· simp);(· simp [Value.oneCell']);intro w1 K1;simp only [List.set,putL] at K1;have K2:=Lib.hid K1;clear K1 K;(try clear a0 l0);(try clear a1 l1);(try clear a2 l2);have K:=K2;clear K2;have a0:=K.out.rd 0 rfl;have l0:=K.out.ltp 0 rfl;have a1:=K.out.rd 1 rfl;have l1:=K.out.ltp 1 rfl;have a2:=K.out.rd 2 rfl;have l2:=K.out.ltp 2 rfl;have a3:=K.out.rd 3 rfl;have l3:=K.out.ltp 3 rfl;have a4:=K.out.rd 4 rfl;have l4:=K.out.ltp 4 rfl))|(have _hp:=g12;(fail_if_success (have _hq:=g14));((with_reducible refine at_store ?_);refine st_store 0 K.out rfl rfl rfl rfl ?_ ?_ ?_ ?_;(· kernel_rfl);(· simp);(· simp [Value.oneCell']);intro w1 K1;simp only [List.set,putL] at K1;have K2:=Lib.hid K1;clear K1 K;(try clear a0 l0);(try clear a1 l1);(try clear a2 l2);have K:=K2;clear K2;have a0:=K.out.rd 0 rfl;have l0:=K.out.ltp 0 rfl;have a1:=K.out.rd 1 rfl;have l1:=K.out.ltp 1 rfl;have a2:=K.out.rd 2 rfl;have l2:=K.out.ltp 2 rfl;have a3:=K.out.rd 3 rfl;have l3:=K.out.ltp 3 rfl))|(have _hp:=g11;(fail_if_success (have _hq:=g12));((with_reducible refine at_store ?_);refine st_store 0 K.out rfl rfl rfl rfl ?_ ?_ ?_ ?_;(· kernel_rfl);(· simp);(· simp [Value.oneCell']);intro w1 K1;simp only [List.set,putL] at K1;have K2:=Lib.hid K1;clear K1 K;(try clear a0 l0);(try clear a1 l1);(try clear a2 l2);have K:=K2;clear K2;have a0:=K.out.rd 0 rfl;have l0:=K.out.ltp 0 rfl;have a1:=K.out.rd 1 rfl;have l1:=K.out.ltp 1 rfl;have a2:=K.out.rd 2 rfl;have l2:=K.out.ltp 2 rfl)))
  refine wp_region_noPanic ?_
  refine wp_region_held_drew (S:=(fun w'=>(∀ j,w'.cell? ⟨ge,j,none⟩ = e.v[j]?) ∧ (∀ j,w'.cell? ⟨gc,j,none⟩ = [Value.int .i64 c.th,.int .i64 c.sl,.int .i64 c.src,.int .i64 c.dl][j]?))) (by kernel_rfl) ?_ (fun hHeld=>?_)
  · ((try dsimp only);(first|exact ⟨K.out.rd 2 rfl,K.out.rd 3 rfl⟩|exact ⟨K.out.drew.rd 2 rfl,K.out.drew.rd 3 rfl⟩))
  refine tk 0 (some 74) ?_
  try simp only[Act.put,p0,p1,p2]
  refine tk 1 (some 75) ?_
  try simp only[Act.put,p0,p1,p2]
  refine tk 2 (some 76) ?_
  try simp only[Act.put,p0,p1,p2]
  refine tk 3 (some 77) ?_
  try simp only[Act.put,p0,p1,p2]
  refine tk 4 (some 78) ?_
  try simp only[Act.put,p0,p1,p2]
  refine tk 5 (some 79) ?_
  try simp only[Act.put,p0,p1,p2]
  refine tk 6 (some 80) ?_
  try simp only[Act.put,p0,p1,p2]
  refine tk 7 (some 81) ?_
  try simp only[Act.put,p0,p1,p2]
  refine tk 8 (some 13) ?_
  try simp only[Act.put,p0,p1,p2]
  have K1:=K.out;have K2:=Lib.hid K1;clear K1 K;(try clear a0 l0);(try clear f0);(try clear a1 l1);(try clear f1);(try clear a2 l2);(try clear f2);(try clear a3 l3);(try clear f3);(try clear a4 l4);(try clear f4);(try clear a5 l5);(try clear f5);have K:=K2;clear K2;(try have a0:=K.out.rd 0 rfl);(try have l0:=K.out.ltp 0 rfl);(try have f0:=K.out.fr 0 rfl);(try have a1:=K.out.rd 1 rfl);(try have l1:=K.out.ltp 1 rfl);(try have f1:=K.out.fr 1 rfl);(try have a2:=K.out.rd 2 rfl);(try have l2:=K.out.ltp 2 rfl);(try have f2:=K.out.fr 2 rfl);(try have a3:=K.out.rd 3 rfl);(try have l3:=K.out.ltp 3 rfl);(try have f3:=K.out.fr 3 rfl)
  refine wpAnyH_done (by kernel_rfl) (NoPanic.normal ?_) _
  (have K1 : sat w _ _:=K.out.drew;clear K;(try clear a0 l0);(try clear a1 l1);(try clear a2 l2);(try clear a3 l3);have K:=Lib.hid K1;clear K1)
  have a0:=K.out.rd 0 rfl
  have l0:=K.out.ltp 0 rfl
  have a1:=K.out.rd 1 rfl
  have l1:=K.out.ltp 1 rfl
  have a2:=K.out.rd 2 rfl
  have l2:=K.out.ltp 2 rfl
  have a3:=K.out.rd 3 rfl
  have l3:=K.out.ltp 3 rfl
  go_wp2_with (first|(go_at_call 31;(with_reducible refine ((AL _).out).mono ?_);rintro e w1 ⟨rfl,hb⟩;have K1:=sat.grown (by repeat (with_reducible first|exact K.out|apply sat.alloc_any|apply sat.drew|apply sat.drewN)) hb;clear hb;have K2:=Lib.hid K1;clear K1 K;(try clear a0 l0);(try clear a1 l1);(try clear a2 l2);have K:=K2;clear K2;have a0:=K.out.rd 0 rfl;have l0:=K.out.ltp 0 rfl;have a1:=K.out.rd 1 rfl;have l1:=K.out.ltp 1 rfl)|(go_at_call 92;(with_reducible refine ((RI _).out).mono ?_);rintro e w1 ⟨rfl,hb⟩;have K1:=sat.grown (by repeat (with_reducible first|exact K.out|apply sat.alloc_any|apply sat.drew|apply sat.drewN)) hb;clear hb;have K2:=Lib.hid K1;clear K1 K;(try clear a0 l0);(try clear a1 l1);(try clear a2 l2);have K:=K2;clear K2;have a0:=K.out.rd 0 rfl;have l0:=K.out.ltp 0 rfl;have a1:=K.out.rd 1 rfl;have l1:=K.out.ltp 1 rfl;have a2:=K.out.rd 2 rfl;have l2:=K.out.ltp 2 rfl;have a3:=K.out.rd 3 rfl;have l3:=K.out.ltp 3 rfl;have a4:=K.out.rd 4 rfl;have l4:=K.out.ltp 4 rfl;have a5:=K.out.rd 5 rfl;have l5:=K.out.ltp 5 rfl)|(have _hp:=g14;((with_reducible refine at_alloc ?_);refine st_allocf K.out (fun _=>rfl) ?_;intro g15 w1 K1;have K2:=Lib.hid K1;clear K1 K;(try clear a0 l0);(try clear a1 l1);(try clear a2 l2);have K:=K2;clear K2;have a0:=K.out.rd 0 rfl;have l0:=K.out.ltp 0 rfl;have a1:=K.out.rd 1 rfl;have l1:=K.out.ltp 1 rfl;have a2:=K.out.rd 2 rfl;have l2:=K.out.ltp 2 rfl;have a3:=K.out.rd 3 rfl;have l3:=K.out.ltp 3 rfl;have a4:=K.out.rd 4 rfl;have l4:=K.out.ltp 4 rfl;have a5:=K.out.rd 5 rfl;have l5:=K.out.ltp 5 rfl))|(have _hp:=g12;((with_reducible refine at_alloc ?_);refine st_allocf K.out (fun _=>rfl) ?_;intro g14 w1 K1;have K2:=Lib.hid K1;clear K1 K;(try clear a0 l0);(try clear a1 l1);(try clear a2 l2);have K:=K2;clear K2;have a0:=K.out.rd 0 rfl;have l0:=K.out.ltp 0 rfl;have a1:=K.out.rd 1 rfl;have l1:=K.out.ltp 1 rfl;have a2:=K.out.rd 2 rfl;have l2:=K.out.ltp 2 rfl;have a3:=K.out.rd 3 rfl;have l3:=K.out.ltp 3 rfl;have a4:=K.out.rd 4 rfl;have l4:=K.out.ltp 4 rfl))|(have _hp:=g11;((with_reducible refine at_alloc ?_);refine st_allocf K.out (fun _=>rfl) ?_;intro g12 w1 K1;have K2:=Lib.hid K1;clear K1 K;(try clear a0 l0);(try clear a1 l1);(try clear a2 l2);have K:=K2;clear K2;have a0:=K.out.rd 0 rfl;have l0:=K.out.ltp 0 rfl;have a1:=K.out.rd 1 rfl;have l1:=K.out.ltp 1 rfl;have a2:=K.out.rd 2 rfl;have l2:=K.out.ltp 2 rfl;have a3:=K.out.rd 3 rfl;have l3:=K.out.ltp 3 rfl))|((with_reducible refine at_alloc ?_);refine st_allocf K.out (fun _=>rfl) ?_;intro g11 w1 K1;have K2:=Lib.hid K1;clear K1 K;(try clear a0 l0);(try clear a1 l1);(try clear a2 l2);have K:=K2;clear K2;have a0:=K.out.rd 0 rfl;have l0:=K.out.ltp 0 rfl;have a1:=K.out.rd 1 rfl;have l1:=K.out.ltp 1 rfl;have a2:=K.out.rd 2 rfl;have l2:=K.out.ltp 2 rfl)|(have _hp:=g11;(go_at_call 91;(with_reducible refine ((N _).out).mono ?_);rintro e w1 ⟨rfl,hb⟩;have K1:=sat.grown (by repeat (with_reducible first|exact K.out|apply sat.alloc_any|apply sat.drew|apply sat.drewN)) hb;clear hb;have K2:=Lib.hid K1;clear K1 K;(try clear a0 l0);(try clear a1 l1);(try clear a2 l2);have K:=K2;clear K2;have a0:=K.out.rd 0 rfl;have l0:=K.out.ltp 0 rfl;have a1:=K.out.rd 1 rfl;have l1:=K.out.ltp 1 rfl;have a2:=K.out.rd 2 rfl;have l2:=K.out.ltp 2 rfl))|(go_at_call 91;(with_reducible refine ((W _).out).mono ?_);rintro e w1 ⟨rfl,hb⟩;have K1:=sat.grown (by repeat (with_reducible first|exact K.out|apply sat.alloc_any|apply sat.drew|apply sat.drewN)) hb;clear hb;have K2:=Lib.hid K1;clear K1 K;(try clear a0 l0);(try clear a1 l1);(try clear a2 l2);have K:=K2;clear K2;have a0:=K.out.rd 0 rfl;have l0:=K.out.ltp 0 rfl;have a1:=K.out.rd 1 rfl;have l1:=K.out.ltp 1 rfl)|(have _hp:=g15;((with_reducible refine at_store ?_);refine st_store 0 K.out rfl rfl rfl rfl ?_ ?_ ?_ ?_;(· kernel_rfl);(· simp);(· simp [Value.oneCell']);intro w1 K1;simp only [List.set,putL] at K1;have K2:=Lib.hid K1;clear K1 K;(try clear a0 l0);(try clear a1 l1);(try clear a2 l2);have K:=K2;clear K2;have a0:=K.out.rd 0 rfl;have l0:=K.out.ltp 0 rfl;have a1:=K.out.rd 1 rfl;have l1:=K.out.ltp 1 rfl;have a2:=K.out.rd 2 rfl;have l2:=K.out.ltp 2 rfl;have a3:=K.out.rd 3 rfl;have l3:=K.out.ltp 3 rfl;have a4:=K.out.rd 4 rfl;have l4:=K.out.ltp 4 rfl;have a5:=K.out.rd 5 rfl;have l5:=K.out.ltp 5 rfl))|(have _hp:=g14;(fail_if_success (have _hq:=g15));((with_reducible refine at_store ?_);refine st_store 0 K.out rfl rfl rfl rfl ?_ ?_ ?_ ?_;(· kernel_rfl);(· simp);(· simp [Value.oneCell']);intro w1 K1;simp only [List.set,putL] at K1;have K2:=Lib.hid K1;clear K1 K;(try clear a0 l0);(try clear a1 l1);(try clear a2 l2);have K:=K2;clear K2;have a0:=K.out.rd 0 rfl;have l0:=K.out.ltp 0 rfl;have a1:=K.out.rd 1 rfl;have l1:=K.out.ltp 1 rfl;have a2:=K.out.rd 2 rfl;have l2:=K.out.ltp 2 rfl;have a3:=K.out.rd 3 rfl;have l3:=K.out.ltp 3 rfl;have a4:=K.out.rd 4 rfl;have l4:=K.out.ltp 4 rfl))|(have _hp:=g12;(fail_if_success (have _hq:=g14));((with_reducible refine at_store ?_);refine st_store 0 K.out rfl rfl rfl rfl ?_ ?_ ?_ ?_;(· kernel_rfl);(· simp);(· simp [Value.oneCell']);intro w1 K1;simp only [List.set,putL] at K1;have K2:=Lib.hid K1;clear K1 K;(try clear a0 l0);(try clear a1 l1);(try clear a2 l2);have K:=K2;clear K2;have a0:=K.out.rd 0 rfl;have l0:=K.out.ltp 0 rfl;have a1:=K.out.rd 1 rfl;have l1:=K.out.ltp 1 rfl;have a2:=K.out.rd 2 rfl;have l2:=K.out.ltp 2 rfl;have a3:=K.out.rd 3 rfl;have l3:=K.out.ltp 3 rfl))|(have _hp:=g11;(fail_if_success (have _hq:=g12));((with_reducible refine at_store ?_);refine st_store 0 K.out rfl rfl rfl rfl ?_ ?_ ?_ ?_;(· kernel_rfl);(· simp);(· simp [Value.oneCell']);intro w1 K1;simp only [List.set,putL] at K1;have K2:=Lib.hid K1;clear K1 K;(try clear a0 l0);(try clear a1 l1);(try clear a2 l2);have K:=K2;clear K2;have a0:=K.out.rd 0 rfl;have l0:=K.out.ltp 0 rfl;have a1:=K.out.rd 1 rfl;have l1:=K.out.ltp 1 rfl;have a2:=K.out.rd 2 rfl;have l2:=K.out.ltp 2 rfl)))
  all_goals (go_ret;exact ⟨ret_b (by simp_all),(show sat w _ _ from by first|exact K.out|exact K.out.drew).below⟩)
theorem lmay_word2 (c : ConfM) (hc : c.ok) (p : Option Addr) (l : List Ev) (cap : Nat) (e : Ev) (w : World) (hl : l.length ≤ 1000000) (hwf : ∀ e ∈ l,Ev.wf e) (he : Ev.wf e) (h : OldE w p l) (h0 : 0 ≤ e.who) (h1 : e.who < c.th) (h2 : 0 ≤ e.cell) (h3 : e.cell < c.cells) (h4 : e.old = lastM l e.cell) (hkd : e.cell < c.all) (ho : e.op = 2) :
    Tells 66 #[.agg #[.int .i64 c.th,.int .i64 c.sl,.int .i64 c.src,.int .i64 c.dl],.slice p l.length cap,.agg e.v.toArray] w (.bool (wordB c e e.cell)):=by
  have K:=Lib.hid (sat.start w)
  have CN:=fun w'=>Lib.hid (cellsn_calls c w' hc)
  have AL:=fun w'=>Lib.hid (all_calls c w' hc)
  have HB:=Lib.hid h
  have LA:=fun w' x (hb : Below w.heap.size w w')=>Lib.hid (last_calls p l cap x w' hl (h.grown hb))
  have hal:=hc.all_bd
  have hth1:=hc.th1
  have hth2:=hc.th2
  have hsl:=hc.sl1
  have hcl : c.cells = 2 * c.all + 2 * c.th:=rfl
  unfold wordB
  rw [next_iff,taken_iff]
  have W:=fun w'=>Lib.hid (unpack_lay e.old he.2.2.1.1 he.2.2.1.2 w')
  have N:=fun w'=>Lib.hid (unpack_lay e.new he.2.2.2.1 he.2.2.2.2 w')
  have gb : 0 ≤ (unpack e.old).gen ∧ (unpack e.old).gen ≤ 100000:=by unfold unpack;dsimp only;omega
  have RI:=fun w'=>Lib.hid (sright_calls (unpack e.new).stamp w')
  generalize unpack e.old = was at *
  generalize unpack e.new = now at *
  have ow : IntKind.i64.wrap (Int.tdiv e.cell c.sl) = ownerM c e.cell:=by
    unfold ownerM
    rw [Int.tdiv_eq_ediv_of_nonneg h2]
    have:=Int.ediv_le_self c.sl h2
    have:=Int.ediv_nonneg h2 (b:=c.sl) (by omega)
    exact wi (by omega) (by omega)
  have z0 : (c.sl == 0) = false:=by simp;omega
  have z1 : ¬ c.sl = 0:=by omega
  generalize ownerM c e.cell = own at *
  have t6 : decide (e.cell < c.all) = true:=by simpa using hkd
  have o0 : (e.op == 0) = false:=by simp [ho]
  have o1 : (e.op == 1) = false:=by simp [ho]
  have o2 : (e.op == 2) = true:=by simp [ho]
  have t5 : (e.old != lastM l e.cell) = false:=by simp [h4]
  have t1 : decide (e.who < 0) = false:=by simp;omega
  have t2 : decide (e.who ≥ c.th) = false:=by simp;omega
  have t3 : decide (e.cell < 0) = false:=by simp;omega
  have t4 : decide (e.cell ≥ c.cells) = false:=by simp;omega
  clear h hwf he hcl hc hl h0 h1 h2 h3 h4 hkd ho
  go_enter Tryz.func66,Tryz.ntmps66
  go_wp2_with (first|(have _hp:=gc;((with_reducible refine at_box ?_);refine st_boxf K.out rfl rfl (fun _=>rfl) ?_;intro ge w1 K1;have K2:=Lib.hid K1;clear K1 K;(try clear a0 l0);(try clear a1 l1);(try clear a2 l2);have K:=K2;clear K2;have a0:=K.out.rd 0 rfl;have l0:=K.out.ltp 0 rfl;have a1:=K.out.rd 1 rfl;have l1:=K.out.ltp 1 rfl))|((with_reducible refine at_box ?_);refine st_boxf K.out rfl rfl (fun _=>rfl) ?_;intro gc w1 K1;have K2:=Lib.hid K1;clear K1 K;(try clear a0 l0);(try clear a1 l1);(try clear a2 l2);have K:=K2;clear K2;have a0:=K.out.rd 0 rfl;have l0:=K.out.ltp 0 rfl))
  refine wp_region_noPanic ?_
  refine wp_region_held_drew (S:=(fun w'=>(∀ j,w'.cell? ⟨ge,j,none⟩ = e.v[j]?) ∧ (∀ j,w'.cell? ⟨gc,j,none⟩ = [Value.int .i64 c.th,.int .i64 c.sl,.int .i64 c.src,.int .i64 c.dl][j]?))) (by kernel_rfl) ?_ (fun hHeld=>?_)
  · ((try dsimp only);(refine lawS (E:=w) (M:=[]) ?_;first|exact K.out|exact K.out.drew))
  refine tk 0 (some 21) ?_
  try simp only[Act.put,p0,p1,p2]
  refine tk 1 (some 22) ?_
  try simp only[Act.put,p0,p1,p2]
  refine tk 2 (some 23) ?_
  try simp only[Act.put,p0,p1,p2]
  refine tk 3 (some 24) ?_
  try simp only[Act.put,p0,p1,p2]
  refine tk 4 (some 25) ?_
  try simp only[Act.put,p0,p1,p2]
  refine tk 5 (some 26) ?_
  try simp only[Act.put,p0,p1,p2]
  refine tk 6 (some 27) ?_
  try simp only[Act.put,p0,p1,p2]
  refine tk 7 (some 28) ?_
  try simp only[Act.put,p0,p1,p2]
  refine tk 8 (some 29) ?_
  try simp only[Act.put,p0,p1,p2]
  refine tk 9 (some 30) ?_
  try simp only[Act.put,p0,p1,p2]
  refine tk 10 (some 31) ?_
  try simp only[Act.put,p0,p1,p2]
  refine tk 11 (some 32) ?_
  try simp only[Act.put,p0,p1,p2]
  refine tk 12 (some 33) ?_
  try simp only[Act.put,p0,p1,p2]
  refine tk 13 (some 34) ?_
  try simp only[Act.put,p0,p1,p2]
  refine tk 14 (some 35) ?_
  try simp only[Act.put,p0,p1,p2]
  refine tk 15 (some 36) ?_
  try simp only[Act.put,p0,p1,p2]
  refine tk 16 (some 37) ?_
  try simp only[Act.put,p0,p1,p2]
  refine tk 17 (some 38) ?_
  try simp only[Act.put,p0,p1,p2]
  refine tk 18 (some 39) ?_
  try simp only[Act.put,p0,p1,p2]
  refine wpAnyH_ready (rs:=[19]) (by kernel_rfl) (by simp) ?_
  refine AllReadyH.cons (o:=_) rfl (fun kC hkC=>?_) AllReadyH.nil
  go_simp
  (first|((first|(go_at_call 18;(with_reducible refine ((CN _).out).mono ?_))|(go_at_call 90;(with_reducible refine ((LA _ _ K.out.below).out).mono ?_))|(go_at_call 90;(with_reducible refine ((LA _ _ K.out.drew.below).out).mono ?_)));rintro e w1 ⟨rfl,hb⟩;have K1:=sat.grown (show sat _ _ _ from by first|exact K.out|exact K.out.drew) hb;clear hb;have K2:=Lib.hid K1;clear K1 K;have K:=K2;clear K2))
  refine shown hkC _ _ (by (try dsimp only);(refine lawS (E:=w) (M:=[]) ?_;first|exact K.out|exact K.out.drew)) ?_;clear hkC kC hHeld;intro hHeld
  try simp only[Act.put,p0,p1,p2]
  refine tk 20 (some 41) ?_
  try simp only[Act.put,p0,p1,p2]
  refine tk 21 (some 42) ?_
  try simp only[Act.put,p0,p1,p2]
  refine tk 22 (some 43) ?_
  try simp only[Act.put,p0,p1,p2]
  refine tk 23 (some 44) ?_
  try simp only[Act.put,p0,p1,p2]
  refine tk 24 (some 45) ?_
  try simp only[Act.put,p0,p1,p2]
  refine tk 25 (some 46) ?_
  try simp only[Act.put,p0,p1,p2]
  refine tk 26 (some 47) ?_
  try simp only[Act.put,p0,p1,p2]
  refine tk 27 (some 48) ?_
  try simp only[Act.put,p0,p1,p2]
  refine wpAnyH_ready (rs:=[28]) (by kernel_rfl) (by simp) ?_
  refine AllReadyH.cons (o:=_) rfl (fun kC hkC=>?_) AllReadyH.nil
  go_simp
  (first|((first|(go_at_call 18;(with_reducible refine ((CN _).out).mono ?_))|(go_at_call 90;(with_reducible refine ((LA _ _ K.out.below).out).mono ?_))|(go_at_call 90;(with_reducible refine ((LA _ _ K.out.drew.below).out).mono ?_)));rintro e w1 ⟨rfl,hb⟩;have K1:=sat.grown (show sat _ _ _ from by first|exact K.out|exact K.out.drew) hb;clear hb;have K2:=Lib.hid K1;clear K1 K;have K:=K2;clear K2))
  refine shown hkC _ _ (by (try dsimp only);(refine lawS (E:=w) (M:=[]) ?_;first|exact K.out|exact K.out.drew)) ?_;clear hkC kC hHeld;intro hHeld
  try simp only[Act.put,p0,p1,p2]
  refine tk 29 (some 50) ?_
  try simp only[Act.put,p0,p1,p2]
  refine tk 30 (some 51) ?_
  try simp only[Act.put,p0,p1,p2]
  have K1:=K.out;have K2:=Lib.hid K1;clear K1 K;(try clear a0 l0);(try clear f0);(try clear a1 l1);(try clear f1);(try clear a2 l2);(try clear f2);(try clear a3 l3);(try clear f3);(try clear a4 l4);(try clear f4);(try clear a5 l5);(try clear f5);have K:=K2;clear K2;(try have a0:=K.out.rd 0 rfl);(try have l0:=K.out.ltp 0 rfl);(try have f0:=K.out.fr 0 rfl);(try have a1:=K.out.rd 1 rfl);(try have l1:=K.out.ltp 1 rfl);(try have f1:=K.out.fr 1 rfl);(try have a2:=K.out.rd 2 rfl);(try have l2:=K.out.ltp 2 rfl);(try have f2:=K.out.fr 2 rfl);(try have a3:=K.out.rd 3 rfl);(try have l3:=K.out.ltp 3 rfl);(try have f3:=K.out.fr 3 rfl)
  refine wpAnyH_done (by kernel_rfl) (NoPanic.normal ?_) _
  (have K1 : sat w _ _:=(by first|exact K.out|exact K.out.drew);clear K;(try clear a0 l0);(try clear a1 l1);have K:=Lib.hid K1;clear K1)
  have a0:=K.out.rd 0 rfl
  have l0:=K.out.ltp 0 rfl
  have a1:=K.out.rd 1 rfl
  have l1:=K.out.ltp 1 rfl
  go_wp2_with (first|(go_at_call 31;(with_reducible refine ((AL _).out).mono ?_);rintro e w1 ⟨rfl,hb⟩;have K1:=sat.grown (by repeat (with_reducible first|exact K.out|apply sat.alloc_any|apply sat.drew|apply sat.drewN)) hb;clear hb;have K2:=Lib.hid K1;clear K1 K;(try clear a0 l0);(try clear a1 l1);(try clear a2 l2);have K:=K2;clear K2;have a0:=K.out.rd 0 rfl;have l0:=K.out.ltp 0 rfl;have a1:=K.out.rd 1 rfl;have l1:=K.out.ltp 1 rfl)|(go_at_call 92;(with_reducible refine ((RI _).out).mono ?_);rintro e w1 ⟨rfl,hb⟩;have K1:=sat.grown (by repeat (with_reducible first|exact K.out|apply sat.alloc_any|apply sat.drew|apply sat.drewN)) hb;clear hb;have K2:=Lib.hid K1;clear K1 K;(try clear a0 l0);(try clear a1 l1);(try clear a2 l2);have K:=K2;clear K2;have a0:=K.out.rd 0 rfl;have l0:=K.out.ltp 0 rfl;have a1:=K.out.rd 1 rfl;have l1:=K.out.ltp 1 rfl;have a2:=K.out.rd 2 rfl;have l2:=K.out.ltp 2 rfl;have a3:=K.out.rd 3 rfl;have l3:=K.out.ltp 3 rfl;have a4:=K.out.rd 4 rfl;have l4:=K.out.ltp 4 rfl;have a5:=K.out.rd 5 rfl;have l5:=K.out.ltp 5 rfl)|(have _hp:=g14;((with_reducible refine at_alloc ?_);refine st_allocf K.out (fun _=>rfl) ?_;intro g15 w1 K1;have K2:=Lib.hid K1;clear K1 K;(try clear a0 l0);(try clear a1 l1);(try clear a2 l2);have K:=K2;clear K2;have a0:=K.out.rd 0 rfl;have l0:=K.out.ltp 0 rfl;have a1:=K.out.rd 1 rfl;have l1:=K.out.ltp 1 rfl;have a2:=K.out.rd 2 rfl;have l2:=K.out.ltp 2 rfl;have a3:=K.out.rd 3 rfl;have l3:=K.out.ltp 3 rfl;have a4:=K.out.rd 4 rfl;have l4:=K.out.ltp 4 rfl;have a5:=K.out.rd 5 rfl;have l5:=K.out.ltp 5 rfl))|(have _hp:=g12;((with_reducible refine at_alloc ?_);refine st_allocf K.out (fun _=>rfl) ?_;intro g14 w1 K1;have K2:=Lib.hid K1;clear K1 K;(try clear a0 l0);(try clear a1 l1);(try clear a2 l2);have K:=K2;clear K2;have a0:=K.out.rd 0 rfl;have l0:=K.out.ltp 0 rfl;have a1:=K.out.rd 1 rfl;have l1:=K.out.ltp 1 rfl;have a2:=K.out.rd 2 rfl;have l2:=K.out.ltp 2 rfl;have a3:=K.out.rd 3 rfl;have l3:=K.out.ltp 3 rfl;have a4:=K.out.rd 4 rfl;have l4:=K.out.ltp 4 rfl))|(have _hp:=g11;((with_reducible refine at_alloc ?_);refine st_allocf K.out (fun _=>rfl) ?_;intro g12 w1 K1;have K2:=Lib.hid K1;clear K1 K;(try clear a0 l0);(try clear a1 l1);(try clear a2 l2);have K:=K2;clear K2;have a0:=K.out.rd 0 rfl;have l0:=K.out.ltp 0 rfl;have a1:=K.out.rd 1 rfl;have l1:=K.out.ltp 1 rfl;have a2:=K.out.rd 2 rfl;have l2:=K.out.ltp 2 rfl;have a3:=K.out.rd 3 rfl;have l3:=K.out.ltp 3 rfl))|((with_reducible refine at_alloc ?_);refine st_allocf K.out (fun _=>rfl) ?_;intro g11 w1 K1;have K2:=Lib.hid K1;clear K1 K;(try clear a0 l0);(try clear a1 l1);(try clear a2 l2);have K:=K2;clear K2;have a0:=K.out.rd 0 rfl;have l0:=K.out.ltp 0 rfl;have a1:=K.out.rd 1 rfl;have l1:=K.out.ltp 1 rfl;have a2:=K.out.rd 2 rfl;have l2:=K.out.ltp 2 rfl)|(have _hp:=g11;(go_at_call 91;(with_reducible refine ((N _).out).mono ?_);rintro e w1 ⟨rfl,hb⟩;have K1:=sat.grown (by repeat (with_reducible first|exact K.out|apply sat.alloc_any|apply sat.drew|apply sat.drewN)) hb;clear hb;have K2:=Lib.hid K1;clear K1 K;(try clear a0 l0);(try clear a1 l1);(try clear a2 l2);have K:=K2;clear K2;have a0:=K.out.rd 0 rfl;have l0:=K.out.ltp 0 rfl;have a1:=K.out.rd 1 rfl;have l1:=K.out.ltp 1 rfl;have a2:=K.out.rd 2 rfl;have l2:=K.out.ltp 2 rfl))|(go_at_call 91;(with_reducible refine ((W _).out).mono ?_);rintro e w1 ⟨rfl,hb⟩;have K1:=sat.grown (by repeat (with_reducible first|exact K.out|apply sat.alloc_any|apply sat.drew|apply sat.drewN)) hb;clear hb;have K2:=Lib.hid K1;clear K1 K;(try clear a0 l0);(try clear a1 l1);(try clear a2 l2);have K:=K2;clear K2;have a0:=K.out.rd 0 rfl;have l0:=K.out.ltp 0 rfl;have a1:=K.out.rd 1 rfl;have l1:=K.out.ltp 1 rfl)|(have _hp:=g15;((with_reducible refine at_store ?_);refine st_store 0 K.out rfl rfl rfl rfl ?_ ?_ ?_ ?_;(· kernel_rfl);(· simp);(· simp [Value.oneCell']);intro w1 K1;simp only [List.set,putL] at K1;have K2:=Lib.hid K1;clear K1 K;(try clear a0 l0);(try clear a1 l1);(try clear a2 l2);have K:=K2;clear K2;have a0:=K.out.rd 0 rfl;have l0:=K.out.ltp 0 rfl;have a1:=K.out.rd 1 rfl;have l1:=K.out.ltp 1 rfl;have a2:=K.out.rd 2 rfl;have l2:=K.out.ltp 2 rfl;have a3:=K.out.rd 3 rfl;have l3:=K.out.ltp 3 rfl;have a4:=K.out.rd 4 rfl;have l4:=K.out.ltp 4 rfl;have a5:=K.out.rd 5 rfl;have l5:=K.out.ltp 5 rfl))|(have _hp:=g14;(fail_if_success (have _hq:=g15));((with_reducible refine at_store ?_);refine st_store 0 K.out rfl rfl rfl rfl ?_ ?_ ?_ ?_;(· kernel_rfl);(· simp);(· simp [Value.oneCell']);intro w1 K1;simp only [List.set,putL] at K1;have K2:=Lib.hid K1;clear K1 K;(try clear a0 l0);(try clear a1 l1);(try clear a2 l2);have K:=K2;clear K2;have a0:=K.out.rd 0 rfl;have l0:=K.out.ltp 0 rfl;have a1:=K.out.rd 1 rfl;have l1:=K.out.ltp 1 rfl;have a2:=K.out.rd 2 rfl;have l2:=K.out.ltp 2 rfl;have a3:=K.out.rd 3 rfl;have l3:=K.out.ltp 3 rfl;have a4:=K.out.rd 4 rfl;have l4:=K.out.ltp 4 rfl))|(have _hp:=g12;(fail_if_success (have _hq:=g14));((with_reducible refine at_store ?_);refine st_store 0 K.out rfl rfl rfl rfl ?_ ?_ ?_ ?_;(· kernel_rfl);(· simp);(· simp [Value.oneCell']);intro w1 K1;simp only [List.set,putL] at K1;have K2:=Lib.hid K1;clear K1 K;(try clear a0 l0);(try clear a1 l1);(try clear a2 l2);have K:=K2;clear K2;have a0:=K.out.rd 0 rfl;have l0:=K.out.ltp 0 rfl;have a1:=K.out.rd 1 rfl;have l1:=K.out.ltp 1 rfl;have a2:=K.out.rd 2 rfl;have l2:=K.out.ltp 2 rfl;have a3:=K.out.rd 3 rfl;have l3:=K.out.ltp 3 rfl))|(have _hp:=g11;(fail_if_success (have _hq:=g12));((with_reducible refine at_store ?_);refine st_store 0 K.out rfl rfl rfl rfl ?_ ?_ ?_ ?_;(· kernel_rfl);(· simp);(· simp [Value.oneCell']);intro w1 K1;simp only [List.set,putL] at K1;have K2:=Lib.hid K1;clear K1 K;(try clear a0 l0);(try clear a1 l1);(try clear a2 l2);have K:=K2;clear K2;have a0:=K.out.rd 0 rfl;have l0:=K.out.ltp 0 rfl;have a1:=K.out.rd 1 rfl;have l1:=K.out.ltp 1 rfl;have a2:=K.out.rd 2 rfl;have l2:=K.out.ltp 2 rfl)))
  refine wp_region_noPanic ?_
  refine wp_region_held_drew (S:=(fun w'=>(∀ j,w'.cell? ⟨ge,j,none⟩ = e.v[j]?) ∧ (∀ j,w'.cell? ⟨gc,j,none⟩ = [Value.int .i64 c.th,.int .i64 c.sl,.int .i64 c.src,.int .i64 c.dl][j]?))) (by kernel_rfl) ?_ (fun hHeld=>?_)
  · ((try dsimp only);(first|exact ⟨K.out.rd 2 rfl,K.out.rd 3 rfl⟩|exact ⟨K.out.drew.rd 2 rfl,K.out.drew.rd 3 rfl⟩))
  refine tk 0 (some 74) ?_
  try simp only[Act.put,p0,p1,p2]
  refine tk 1 (some 75) ?_
  try simp only[Act.put,p0,p1,p2]
  refine tk 2 (some 76) ?_
  try simp only[Act.put,p0,p1,p2]
  refine tk 3 (some 77) ?_
  try simp only[Act.put,p0,p1,p2]
  refine tk 4 (some 78) ?_
  try simp only[Act.put,p0,p1,p2]
  refine tk 5 (some 79) ?_
  try simp only[Act.put,p0,p1,p2]
  refine tk 6 (some 80) ?_
  try simp only[Act.put,p0,p1,p2]
  refine tk 7 (some 81) ?_
  try simp only[Act.put,p0,p1,p2]
  refine tk 8 (some 13) ?_
  try simp only[Act.put,p0,p1,p2]
  have K1:=K.out;have K2:=Lib.hid K1;clear K1 K;(try clear a0 l0);(try clear f0);(try clear a1 l1);(try clear f1);(try clear a2 l2);(try clear f2);(try clear a3 l3);(try clear f3);(try clear a4 l4);(try clear f4);(try clear a5 l5);(try clear f5);have K:=K2;clear K2;(try have a0:=K.out.rd 0 rfl);(try have l0:=K.out.ltp 0 rfl);(try have f0:=K.out.fr 0 rfl);(try have a1:=K.out.rd 1 rfl);(try have l1:=K.out.ltp 1 rfl);(try have f1:=K.out.fr 1 rfl);(try have a2:=K.out.rd 2 rfl);(try have l2:=K.out.ltp 2 rfl);(try have f2:=K.out.fr 2 rfl);(try have a3:=K.out.rd 3 rfl);(try have l3:=K.out.ltp 3 rfl);(try have f3:=K.out.fr 3 rfl)
  refine wpAnyH_done (by kernel_rfl) (NoPanic.normal ?_) _
  (have K1 : sat w _ _:=K.out.drew;clear K;(try clear a0 l0);(try clear a1 l1);(try clear a2 l2);(try clear a3 l3);have K:=Lib.hid K1;clear K1)
  have a0:=K.out.rd 0 rfl
  have l0:=K.out.ltp 0 rfl
  have a1:=K.out.rd 1 rfl
  have l1:=K.out.ltp 1 rfl
  have a2:=K.out.rd 2 rfl
  have l2:=K.out.ltp 2 rfl
  have a3:=K.out.rd 3 rfl
  have l3:=K.out.ltp 3 rfl
  go_wp2_with (first|(go_at_call 31;(with_reducible refine ((AL _).out).mono ?_);rintro e w1 ⟨rfl,hb⟩;have K1:=sat.grown (by repeat (with_reducible first|exact K.out|apply sat.alloc_any|apply sat.drew|apply sat.drewN)) hb;clear hb;have K2:=Lib.hid K1;clear K1 K;(try clear a0 l0);(try clear a1 l1);(try clear a2 l2);have K:=K2;clear K2;have a0:=K.out.rd 0 rfl;have l0:=K.out.ltp 0 rfl;have a1:=K.out.rd 1 rfl;have l1:=K.out.ltp 1 rfl)|(go_at_call 92;(with_reducible refine ((RI _).out).mono ?_);rintro e w1 ⟨rfl,hb⟩;have K1:=sat.grown (by repeat (with_reducible first|exact K.out|apply sat.alloc_any|apply sat.drew|apply sat.drewN)) hb;clear hb;have K2:=Lib.hid K1;clear K1 K;(try clear a0 l0);(try clear a1 l1);(try clear a2 l2);have K:=K2;clear K2;have a0:=K.out.rd 0 rfl;have l0:=K.out.ltp 0 rfl;have a1:=K.out.rd 1 rfl;have l1:=K.out.ltp 1 rfl;have a2:=K.out.rd 2 rfl;have l2:=K.out.ltp 2 rfl;have a3:=K.out.rd 3 rfl;have l3:=K.out.ltp 3 rfl;have a4:=K.out.rd 4 rfl;have l4:=K.out.ltp 4 rfl;have a5:=K.out.rd 5 rfl;have l5:=K.out.ltp 5 rfl)|(have _hp:=g14;((with_reducible refine at_alloc ?_);refine st_allocf K.out (fun _=>rfl) ?_;intro g15 w1 K1;have K2:=Lib.hid K1;clear K1 K;(try clear a0 l0);(try clear a1 l1);(try clear a2 l2);have K:=K2;clear K2;have a0:=K.out.rd 0 rfl;have l0:=K.out.ltp 0 rfl;have a1:=K.out.rd 1 rfl;have l1:=K.out.ltp 1 rfl;have a2:=K.out.rd 2 rfl;have l2:=K.out.ltp 2 rfl;have a3:=K.out.rd 3 rfl;have l3:=K.out.ltp 3 rfl;have a4:=K.out.rd 4 rfl;have l4:=K.out.ltp 4 rfl;have a5:=K.out.rd 5 rfl;have l5:=K.out.ltp 5 rfl))|(have _hp:=g12;((with_reducible refine at_alloc ?_);refine st_allocf K.out (fun _=>rfl) ?_;intro g14 w1 K1;have K2:=Lib.hid K1;clear K1 K;(try clear a0 l0);(try clear a1 l1);(try clear a2 l2);have K:=K2;clear K2;have a0:=K.out.rd 0 rfl;have l0:=K.out.ltp 0 rfl;have a1:=K.out.rd 1 rfl;have l1:=K.out.ltp 1 rfl;have a2:=K.out.rd 2 rfl;have l2:=K.out.ltp 2 rfl;have a3:=K.out.rd 3 rfl;have l3:=K.out.ltp 3 rfl;have a4:=K.out.rd 4 rfl;have l4:=K.out.ltp 4 rfl))|(have _hp:=g11;((with_reducible refine at_alloc ?_);refine st_allocf K.out (fun _=>rfl) ?_;intro g12 w1 K1;have K2:=Lib.hid K1;clear K1 K;(try clear a0 l0);(try clear a1 l1);(try clear a2 l2);have K:=K2;clear K2;have a0:=K.out.rd 0 rfl;have l0:=K.out.ltp 0 rfl;have a1:=K.out.rd 1 rfl;have l1:=K.out.ltp 1 rfl;have a2:=K.out.rd 2 rfl;have l2:=K.out.ltp 2 rfl;have a3:=K.out.rd 3 rfl;have l3:=K.out.ltp 3 rfl))|((with_reducible refine at_alloc ?_);refine st_allocf K.out (fun _=>rfl) ?_;intro g11 w1 K1;have K2:=Lib.hid K1;clear K1 K;(try clear a0 l0);(try clear a1 l1);(try clear a2 l2);have K:=K2;clear K2;have a0:=K.out.rd 0 rfl;have l0:=K.out.ltp 0 rfl;have a1:=K.out.rd 1 rfl;have l1:=K.out.ltp 1 rfl;have a2:=K.out.rd 2 rfl;have l2:=K.out.ltp 2 rfl)|(have _hp:=g11;(go_at_call 91;(with_reducible refine ((N _).out).mono ?_);rintro e w1 ⟨rfl,hb⟩;have K1:=sat.grown (by repeat (with_reducible first|exact K.out|apply sat.alloc_any|apply sat.drew|apply sat.drewN)) hb;clear hb;have K2:=Lib.hid K1;clear K1 K;(try clear a0 l0);(try clear a1 l1);(try clear a2 l2);have K:=K2;clear K2;have a0:=K.out.rd 0 rfl;have l0:=K.out.ltp 0 rfl;have a1:=K.out.rd 1 rfl;have l1:=K.out.ltp 1 rfl;have a2:=K.out.rd 2 rfl;have l2:=K.out.ltp 2 rfl))|(go_at_call 91;(with_reducible refine ((W _).out).mono ?_);rintro e w1 ⟨rfl,hb⟩;have K1:=sat.grown (by repeat (with_reducible first|exact K.out|apply sat.alloc_any|apply sat.drew|apply sat.drewN)) hb;clear hb;have K2:=Lib.hid K1;clear K1 K;(try clear a0 l0);(try clear a1 l1);(try clear a2 l2);have K:=K2;clear K2;have a0:=K.out.rd 0 rfl;have l0:=K.out.ltp 0 rfl;have a1:=K.out.rd 1 rfl;have l1:=K.out.ltp 1 rfl)|(have _hp:=g15;((with_reducible refine at_store ?_);refine st_store 0 K.out rfl rfl rfl rfl ?_ ?_ ?_ ?_;(· kernel_rfl);(· simp);(· simp [Value.oneCell']);intro w1 K1;simp only [List.set,putL] at K1;have K2:=Lib.hid K1;clear K1 K;(try clear a0 l0);(try clear a1 l1);(try clear a2 l2);have K:=K2;clear K2;have a0:=K.out.rd 0 rfl;have l0:=K.out.ltp 0 rfl;have a1:=K.out.rd 1 rfl;have l1:=K.out.ltp 1 rfl;have a2:=K.out.rd 2 rfl;have l2:=K.out.ltp 2 rfl;have a3:=K.out.rd 3 rfl;have l3:=K.out.ltp 3 rfl;have a4:=K.out.rd 4 rfl;have l4:=K.out.ltp 4 rfl;have a5:=K.out.rd 5 rfl;have l5:=K.out.ltp 5 rfl))|(have _hp:=g14;(fail_if_success (have _hq:=g15));((with_reducible refine at_store ?_);refine st_store 0 K.out rfl rfl rfl rfl ?_ ?_ ?_ ?_;(· kernel_rfl);(· simp);(· simp [Value.oneCell']);intro w1 K1;simp only [List.set,putL] at K1;have K2:=Lib.hid K1;clear K1 K;(try clear a0 l0);(try clear a1 l1);(try clear a2 l2);have K:=K2;clear K2;have a0:=K.out.rd 0 rfl;have l0:=K.out.ltp 0 rfl;have a1:=K.out.rd 1 rfl;have l1:=K.out.ltp 1 rfl;have a2:=K.out.rd 2 rfl;have l2:=K.out.ltp 2 rfl;have a3:=K.out.rd 3 rfl;have l3:=K.out.ltp 3 rfl;have a4:=K.out.rd 4 rfl;have l4:=K.out.ltp 4 rfl))|(have _hp:=g12;(fail_if_success (have _hq:=g14));((with_reducible refine at_store ?_);refine st_store 0 K.out rfl rfl rfl rfl ?_ ?_ ?_ ?_;(· kernel_rfl);(· simp);(· simp [Value.oneCell']);intro w1 K1;simp only [List.set,putL] at K1;have K2:=Lib.hid K1;clear K1 K;(try clear a0 l0);(try clear a1 l1);(try clear a2 l2);have K:=K2;clear K2;have a0:=K.out.rd 0 rfl;have l0:=K.out.ltp 0 rfl;have a1:=K.out.rd 1 rfl;have l1:=K.out.ltp 1 rfl;have a2:=K.out.rd 2 rfl;have l2:=K.out.ltp 2 rfl;have a3:=K.out.rd 3 rfl;have l3:=K.out.ltp 3 rfl))|(have _hp:=g11;(fail_if_success (have _hq:=g12));((with_reducible refine at_store ?_);refine st_store 0 K.out rfl rfl rfl rfl ?_ ?_ ?_ ?_;(· kernel_rfl);(· simp);(· simp [Value.oneCell']);intro w1 K1;simp only [List.set,putL] at K1;have K2:=Lib.hid K1;clear K1 K;(try clear a0 l0);(try clear a1 l1);(try clear a2 l2);have K:=K2;clear K2;have a0:=K.out.rd 0 rfl;have l0:=K.out.ltp 0 rfl;have a1:=K.out.rd 1 rfl;have l1:=K.out.ltp 1 rfl;have a2:=K.out.rd 2 rfl;have l2:=K.out.ltp 2 rfl)))
  all_goals (go_ret;exact ⟨ret_b (by simp_all),(show sat w _ _ from by first|exact K.out|exact K.out.drew).below⟩)
theorem lmay_wordx (c : ConfM) (hc : c.ok) (p : Option Addr) (l : List Ev) (cap : Nat) (e : Ev) (w : World) (hl : l.length ≤ 1000000) (hwf : ∀ e ∈ l,Ev.wf e) (he : Ev.wf e) (h : OldE w p l) (h0 : 0 ≤ e.who) (h1 : e.who < c.th) (h2 : 0 ≤ e.cell) (h3 : e.cell < c.cells) (h4 : e.old = lastM l e.cell) (hkd : e.cell < c.all) (hx : e.op ≠ 0) (hy : e.op ≠ 1) (hz : e.op ≠ 2) :
    Tells 66 #[.agg #[.int .i64 c.th,.int .i64 c.sl,.int .i64 c.src,.int .i64 c.dl],.slice p l.length cap,.agg e.v.toArray] w (.bool (wordB c e e.cell)):=by
  have K:=Lib.hid (sat.start w)
  have CN:=fun w'=>Lib.hid (cellsn_calls c w' hc)
  have AL:=fun w'=>Lib.hid (all_calls c w' hc)
  have HB:=Lib.hid h
  have LA:=fun w' x (hb : Below w.heap.size w w')=>Lib.hid (last_calls p l cap x w' hl (h.grown hb))
  have hal:=hc.all_bd
  have hth1:=hc.th1
  have hth2:=hc.th2
  have hsl:=hc.sl1
  have hcl : c.cells = 2 * c.all + 2 * c.th:=rfl
  unfold wordB
  rw [next_iff,taken_iff]
  have W:=fun w'=>Lib.hid (unpack_lay e.old he.2.2.1.1 he.2.2.1.2 w')
  have N:=fun w'=>Lib.hid (unpack_lay e.new he.2.2.2.1 he.2.2.2.2 w')
  have gb : 0 ≤ (unpack e.old).gen ∧ (unpack e.old).gen ≤ 100000:=by unfold unpack;dsimp only;omega
  have RI:=fun w'=>Lib.hid (sright_calls (unpack e.new).stamp w')
  generalize unpack e.old = was at *
  generalize unpack e.new = now at *
  have ow : IntKind.i64.wrap (Int.tdiv e.cell c.sl) = ownerM c e.cell:=by
    unfold ownerM
    rw [Int.tdiv_eq_ediv_of_nonneg h2]
    have:=Int.ediv_le_self c.sl h2
    have:=Int.ediv_nonneg h2 (b:=c.sl) (by omega)
    exact wi (by omega) (by omega)
  have z0 : (c.sl == 0) = false:=by simp;omega
  have z1 : ¬ c.sl = 0:=by omega
  generalize ownerM c e.cell = own at *
  have t6 : decide (e.cell < c.all) = true:=by simpa using hkd
  have o0 : (e.op == 0) = false:=by simp [hx]
  have o1 : (e.op == 1) = false:=by simp [hy]
  have o2 : (e.op == 2) = false:=by simp [hz]
  have t5 : (e.old != lastM l e.cell) = false:=by simp [h4]
  have t1 : decide (e.who < 0) = false:=by simp;omega
  have t2 : decide (e.who ≥ c.th) = false:=by simp;omega
  have t3 : decide (e.cell < 0) = false:=by simp;omega
  have t4 : decide (e.cell ≥ c.cells) = false:=by simp;omega
  clear h hwf he hcl hc hl h0 h1 h2 h3 h4 hkd hx hy hz
  go_enter Tryz.func66,Tryz.ntmps66
  go_wp2_with (first|(have _hp:=gc;((with_reducible refine at_box ?_);refine st_boxf K.out rfl rfl (fun _=>rfl) ?_;intro ge w1 K1;have K2:=Lib.hid K1;clear K1 K;(try clear a0 l0);(try clear a1 l1);(try clear a2 l2);have K:=K2;clear K2;have a0:=K.out.rd 0 rfl;have l0:=K.out.ltp 0 rfl;have a1:=K.out.rd 1 rfl;have l1:=K.out.ltp 1 rfl))|((with_reducible refine at_box ?_);refine st_boxf K.out rfl rfl (fun _=>rfl) ?_;intro gc w1 K1;have K2:=Lib.hid K1;clear K1 K;(try clear a0 l0);(try clear a1 l1);(try clear a2 l2);have K:=K2;clear K2;have a0:=K.out.rd 0 rfl;have l0:=K.out.ltp 0 rfl))
  refine wp_region_noPanic ?_
  refine wp_region_held_drew (S:=(fun w'=>(∀ j,w'.cell? ⟨ge,j,none⟩ = e.v[j]?) ∧ (∀ j,w'.cell? ⟨gc,j,none⟩ = [Value.int .i64 c.th,.int .i64 c.sl,.int .i64 c.src,.int .i64 c.dl][j]?))) (by kernel_rfl) ?_ (fun hHeld=>?_)
  · ((try dsimp only);(refine lawS (E:=w) (M:=[]) ?_;first|exact K.out|exact K.out.drew))
  refine tk 0 (some 21) ?_
  try simp only[Act.put,p0,p1,p2]
  refine tk 1 (some 22) ?_
  try simp only[Act.put,p0,p1,p2]
  refine tk 2 (some 23) ?_
  try simp only[Act.put,p0,p1,p2]
  refine tk 3 (some 24) ?_
  try simp only[Act.put,p0,p1,p2]
  refine tk 4 (some 25) ?_
  try simp only[Act.put,p0,p1,p2]
  refine tk 5 (some 26) ?_
  try simp only[Act.put,p0,p1,p2]
  refine tk 6 (some 27) ?_
  try simp only[Act.put,p0,p1,p2]
  refine tk 7 (some 28) ?_
  try simp only[Act.put,p0,p1,p2]
  refine tk 8 (some 29) ?_
  try simp only[Act.put,p0,p1,p2]
  refine tk 9 (some 30) ?_
  try simp only[Act.put,p0,p1,p2]
  refine tk 10 (some 31) ?_
  try simp only[Act.put,p0,p1,p2]
  refine tk 11 (some 32) ?_
  try simp only[Act.put,p0,p1,p2]
  refine tk 12 (some 33) ?_
  try simp only[Act.put,p0,p1,p2]
  refine tk 13 (some 34) ?_
  try simp only[Act.put,p0,p1,p2]
  refine tk 14 (some 35) ?_
  try simp only[Act.put,p0,p1,p2]
  refine tk 15 (some 36) ?_
  try simp only[Act.put,p0,p1,p2]
  refine tk 16 (some 37) ?_
  try simp only[Act.put,p0,p1,p2]
  refine tk 17 (some 38) ?_
  try simp only[Act.put,p0,p1,p2]
  refine tk 18 (some 39) ?_
  try simp only[Act.put,p0,p1,p2]
  refine wpAnyH_ready (rs:=[19]) (by kernel_rfl) (by simp) ?_
  refine AllReadyH.cons (o:=_) rfl (fun kC hkC=>?_) AllReadyH.nil
  go_simp
  (first|((first|(go_at_call 18;(with_reducible refine ((CN _).out).mono ?_))|(go_at_call 90;(with_reducible refine ((LA _ _ K.out.below).out).mono ?_))|(go_at_call 90;(with_reducible refine ((LA _ _ K.out.drew.below).out).mono ?_)));rintro e w1 ⟨rfl,hb⟩;have K1:=sat.grown (show sat _ _ _ from by first|exact K.out|exact K.out.drew) hb;clear hb;have K2:=Lib.hid K1;clear K1 K;have K:=K2;clear K2))
  refine shown hkC _ _ (by (try dsimp only);(refine lawS (E:=w) (M:=[]) ?_;first|exact K.out|exact K.out.drew)) ?_;clear hkC kC hHeld;intro hHeld
  try simp only[Act.put,p0,p1,p2]
  refine tk 20 (some 41) ?_
  try simp only[Act.put,p0,p1,p2]
  refine tk 21 (some 42) ?_
  try simp only[Act.put,p0,p1,p2]
  refine tk 22 (some 43) ?_
  try simp only[Act.put,p0,p1,p2]
  refine tk 23 (some 44) ?_
  try simp only[Act.put,p0,p1,p2]
  refine tk 24 (some 45) ?_
  try simp only[Act.put,p0,p1,p2]
  refine tk 25 (some 46) ?_
  try simp only[Act.put,p0,p1,p2]
  refine tk 26 (some 47) ?_
  try simp only[Act.put,p0,p1,p2]
  refine tk 27 (some 48) ?_
  try simp only[Act.put,p0,p1,p2]
  refine wpAnyH_ready (rs:=[28]) (by kernel_rfl) (by simp) ?_
  refine AllReadyH.cons (o:=_) rfl (fun kC hkC=>?_) AllReadyH.nil
  go_simp
  (first|((first|(go_at_call 18;(with_reducible refine ((CN _).out).mono ?_))|(go_at_call 90;(with_reducible refine ((LA _ _ K.out.below).out).mono ?_))|(go_at_call 90;(with_reducible refine ((LA _ _ K.out.drew.below).out).mono ?_)));rintro e w1 ⟨rfl,hb⟩;have K1:=sat.grown (show sat _ _ _ from by first|exact K.out|exact K.out.drew) hb;clear hb;have K2:=Lib.hid K1;clear K1 K;have K:=K2;clear K2))
  refine shown hkC _ _ (by (try dsimp only);(refine lawS (E:=w) (M:=[]) ?_;first|exact K.out|exact K.out.drew)) ?_;clear hkC kC hHeld;intro hHeld
  try simp only[Act.put,p0,p1,p2]
  refine tk 29 (some 50) ?_
  try simp only[Act.put,p0,p1,p2]
  refine tk 30 (some 51) ?_
  try simp only[Act.put,p0,p1,p2]
  have K1:=K.out;have K2:=Lib.hid K1;clear K1 K;(try clear a0 l0);(try clear f0);(try clear a1 l1);(try clear f1);(try clear a2 l2);(try clear f2);(try clear a3 l3);(try clear f3);(try clear a4 l4);(try clear f4);(try clear a5 l5);(try clear f5);have K:=K2;clear K2;(try have a0:=K.out.rd 0 rfl);(try have l0:=K.out.ltp 0 rfl);(try have f0:=K.out.fr 0 rfl);(try have a1:=K.out.rd 1 rfl);(try have l1:=K.out.ltp 1 rfl);(try have f1:=K.out.fr 1 rfl);(try have a2:=K.out.rd 2 rfl);(try have l2:=K.out.ltp 2 rfl);(try have f2:=K.out.fr 2 rfl);(try have a3:=K.out.rd 3 rfl);(try have l3:=K.out.ltp 3 rfl);(try have f3:=K.out.fr 3 rfl)
  refine wpAnyH_done (by kernel_rfl) (NoPanic.normal ?_) _
  (have K1 : sat w _ _:=(by first|exact K.out|exact K.out.drew);clear K;(try clear a0 l0);(try clear a1 l1);have K:=Lib.hid K1;clear K1)
  have a0:=K.out.rd 0 rfl
  have l0:=K.out.ltp 0 rfl
  have a1:=K.out.rd 1 rfl
  have l1:=K.out.ltp 1 rfl
  go_wp2_with (first|(go_at_call 31;(with_reducible refine ((AL _).out).mono ?_);rintro e w1 ⟨rfl,hb⟩;have K1:=sat.grown (by repeat (with_reducible first|exact K.out|apply sat.alloc_any|apply sat.drew|apply sat.drewN)) hb;clear hb;have K2:=Lib.hid K1;clear K1 K;(try clear a0 l0);(try clear a1 l1);(try clear a2 l2);have K:=K2;clear K2;have a0:=K.out.rd 0 rfl;have l0:=K.out.ltp 0 rfl;have a1:=K.out.rd 1 rfl;have l1:=K.out.ltp 1 rfl)|(go_at_call 92;(with_reducible refine ((RI _).out).mono ?_);rintro e w1 ⟨rfl,hb⟩;have K1:=sat.grown (by repeat (with_reducible first|exact K.out|apply sat.alloc_any|apply sat.drew|apply sat.drewN)) hb;clear hb;have K2:=Lib.hid K1;clear K1 K;(try clear a0 l0);(try clear a1 l1);(try clear a2 l2);have K:=K2;clear K2;have a0:=K.out.rd 0 rfl;have l0:=K.out.ltp 0 rfl;have a1:=K.out.rd 1 rfl;have l1:=K.out.ltp 1 rfl;have a2:=K.out.rd 2 rfl;have l2:=K.out.ltp 2 rfl;have a3:=K.out.rd 3 rfl;have l3:=K.out.ltp 3 rfl;have a4:=K.out.rd 4 rfl;have l4:=K.out.ltp 4 rfl;have a5:=K.out.rd 5 rfl;have l5:=K.out.ltp 5 rfl)|(have _hp:=g14;((with_reducible refine at_alloc ?_);refine st_allocf K.out (fun _=>rfl) ?_;intro g15 w1 K1;have K2:=Lib.hid K1;clear K1 K;(try clear a0 l0);(try clear a1 l1);(try clear a2 l2);have K:=K2;clear K2;have a0:=K.out.rd 0 rfl;have l0:=K.out.ltp 0 rfl;have a1:=K.out.rd 1 rfl;have l1:=K.out.ltp 1 rfl;have a2:=K.out.rd 2 rfl;have l2:=K.out.ltp 2 rfl;have a3:=K.out.rd 3 rfl;have l3:=K.out.ltp 3 rfl;have a4:=K.out.rd 4 rfl;have l4:=K.out.ltp 4 rfl;have a5:=K.out.rd 5 rfl;have l5:=K.out.ltp 5 rfl))|(have _hp:=g12;((with_reducible refine at_alloc ?_);refine st_allocf K.out (fun _=>rfl) ?_;intro g14 w1 K1;have K2:=Lib.hid K1;clear K1 K;(try clear a0 l0);(try clear a1 l1);(try clear a2 l2);have K:=K2;clear K2;have a0:=K.out.rd 0 rfl;have l0:=K.out.ltp 0 rfl;have a1:=K.out.rd 1 rfl;have l1:=K.out.ltp 1 rfl;have a2:=K.out.rd 2 rfl;have l2:=K.out.ltp 2 rfl;have a3:=K.out.rd 3 rfl;have l3:=K.out.ltp 3 rfl;have a4:=K.out.rd 4 rfl;have l4:=K.out.ltp 4 rfl))|(have _hp:=g11;((with_reducible refine at_alloc ?_);refine st_allocf K.out (fun _=>rfl) ?_;intro g12 w1 K1;have K2:=Lib.hid K1;clear K1 K;(try clear a0 l0);(try clear a1 l1);(try clear a2 l2);have K:=K2;clear K2;have a0:=K.out.rd 0 rfl;have l0:=K.out.ltp 0 rfl;have a1:=K.out.rd 1 rfl;have l1:=K.out.ltp 1 rfl;have a2:=K.out.rd 2 rfl;have l2:=K.out.ltp 2 rfl;have a3:=K.out.rd 3 rfl;have l3:=K.out.ltp 3 rfl))|((with_reducible refine at_alloc ?_);refine st_allocf K.out (fun _=>rfl) ?_;intro g11 w1 K1;have K2:=Lib.hid K1;clear K1 K;(try clear a0 l0);(try clear a1 l1);(try clear a2 l2);have K:=K2;clear K2;have a0:=K.out.rd 0 rfl;have l0:=K.out.ltp 0 rfl;have a1:=K.out.rd 1 rfl;have l1:=K.out.ltp 1 rfl;have a2:=K.out.rd 2 rfl;have l2:=K.out.ltp 2 rfl)|(have _hp:=g11;(go_at_call 91;(with_reducible refine ((N _).out).mono ?_);rintro e w1 ⟨rfl,hb⟩;have K1:=sat.grown (by repeat (with_reducible first|exact K.out|apply sat.alloc_any|apply sat.drew|apply sat.drewN)) hb;clear hb;have K2:=Lib.hid K1;clear K1 K;(try clear a0 l0);(try clear a1 l1);(try clear a2 l2);have K:=K2;clear K2;have a0:=K.out.rd 0 rfl;have l0:=K.out.ltp 0 rfl;have a1:=K.out.rd 1 rfl;have l1:=K.out.ltp 1 rfl;have a2:=K.out.rd 2 rfl;have l2:=K.out.ltp 2 rfl))|(go_at_call 91;(with_reducible refine ((W _).out).mono ?_);rintro e w1 ⟨rfl,hb⟩;have K1:=sat.grown (by repeat (with_reducible first|exact K.out|apply sat.alloc_any|apply sat.drew|apply sat.drewN)) hb;clear hb;have K2:=Lib.hid K1;clear K1 K;(try clear a0 l0);(try clear a1 l1);(try clear a2 l2);have K:=K2;clear K2;have a0:=K.out.rd 0 rfl;have l0:=K.out.ltp 0 rfl;have a1:=K.out.rd 1 rfl;have l1:=K.out.ltp 1 rfl)|(have _hp:=g15;((with_reducible refine at_store ?_);refine st_store 0 K.out rfl rfl rfl rfl ?_ ?_ ?_ ?_;(· kernel_rfl);(· simp);(· simp [Value.oneCell']);intro w1 K1;simp only [List.set,putL] at K1;have K2:=Lib.hid K1;clear K1 K;(try clear a0 l0);(try clear a1 l1);(try clear a2 l2);have K:=K2;clear K2;have a0:=K.out.rd 0 rfl;have l0:=K.out.ltp 0 rfl;have a1:=K.out.rd 1 rfl;have l1:=K.out.ltp 1 rfl;have a2:=K.out.rd 2 rfl;have l2:=K.out.ltp 2 rfl;have a3:=K.out.rd 3 rfl;have l3:=K.out.ltp 3 rfl;have a4:=K.out.rd 4 rfl;have l4:=K.out.ltp 4 rfl;have a5:=K.out.rd 5 rfl;have l5:=K.out.ltp 5 rfl))|(have _hp:=g14;(fail_if_success (have _hq:=g15));((with_reducible refine at_store ?_);refine st_store 0 K.out rfl rfl rfl rfl ?_ ?_ ?_ ?_;(· kernel_rfl);(· simp);(· simp [Value.oneCell']);intro w1 K1;simp only [List.set,putL] at K1;have K2:=Lib.hid K1;clear K1 K;(try clear a0 l0);(try clear a1 l1);(try clear a2 l2);have K:=K2;clear K2;have a0:=K.out.rd 0 rfl;have l0:=K.out.ltp 0 rfl;have a1:=K.out.rd 1 rfl;have l1:=K.out.ltp 1 rfl;have a2:=K.out.rd 2 rfl;have l2:=K.out.ltp 2 rfl;have a3:=K.out.rd 3 rfl;have l3:=K.out.ltp 3 rfl;have a4:=K.out.rd 4 rfl;have l4:=K.out.ltp 4 rfl))|(have _hp:=g12;(fail_if_success (have _hq:=g14));((with_reducible refine at_store ?_);refine st_store 0 K.out rfl rfl rfl rfl ?_ ?_ ?_ ?_;(· kernel_rfl);(· simp);(· simp [Value.oneCell']);intro w1 K1;simp only [List.set,putL] at K1;have K2:=Lib.hid K1;clear K1 K;(try clear a0 l0);(try clear a1 l1);(try clear a2 l2);have K:=K2;clear K2;have a0:=K.out.rd 0 rfl;have l0:=K.out.ltp 0 rfl;have a1:=K.out.rd 1 rfl;have l1:=K.out.ltp 1 rfl;have a2:=K.out.rd 2 rfl;have l2:=K.out.ltp 2 rfl;have a3:=K.out.rd 3 rfl;have l3:=K.out.ltp 3 rfl))|(have _hp:=g11;(fail_if_success (have _hq:=g12));((with_reducible refine at_store ?_);refine st_store 0 K.out rfl rfl rfl rfl ?_ ?_ ?_ ?_;(· kernel_rfl);(· simp);(· simp [Value.oneCell']);intro w1 K1;simp only [List.set,putL] at K1;have K2:=Lib.hid K1;clear K1 K;(try clear a0 l0);(try clear a1 l1);(try clear a2 l2);have K:=K2;clear K2;have a0:=K.out.rd 0 rfl;have l0:=K.out.ltp 0 rfl;have a1:=K.out.rd 1 rfl;have l1:=K.out.ltp 1 rfl;have a2:=K.out.rd 2 rfl;have l2:=K.out.ltp 2 rfl)))
  refine wp_region_noPanic ?_
  refine wp_region_held_drew (S:=(fun w'=>(∀ j,w'.cell? ⟨ge,j,none⟩ = e.v[j]?) ∧ (∀ j,w'.cell? ⟨gc,j,none⟩ = [Value.int .i64 c.th,.int .i64 c.sl,.int .i64 c.src,.int .i64 c.dl][j]?))) (by kernel_rfl) ?_ (fun hHeld=>?_)
  · ((try dsimp only);(first|exact ⟨K.out.rd 2 rfl,K.out.rd 3 rfl⟩|exact ⟨K.out.drew.rd 2 rfl,K.out.drew.rd 3 rfl⟩))
  refine tk 0 (some 74) ?_
  try simp only[Act.put,p0,p1,p2]
  refine tk 1 (some 75) ?_
  try simp only[Act.put,p0,p1,p2]
  refine tk 2 (some 76) ?_
  try simp only[Act.put,p0,p1,p2]
  refine tk 3 (some 77) ?_
  try simp only[Act.put,p0,p1,p2]
  refine tk 4 (some 78) ?_
  try simp only[Act.put,p0,p1,p2]
  refine tk 5 (some 79) ?_
  try simp only[Act.put,p0,p1,p2]
  refine tk 6 (some 80) ?_
  try simp only[Act.put,p0,p1,p2]
  refine tk 7 (some 81) ?_
  try simp only[Act.put,p0,p1,p2]
  refine tk 8 (some 13) ?_
  try simp only[Act.put,p0,p1,p2]
  have K1:=K.out;have K2:=Lib.hid K1;clear K1 K;(try clear a0 l0);(try clear f0);(try clear a1 l1);(try clear f1);(try clear a2 l2);(try clear f2);(try clear a3 l3);(try clear f3);(try clear a4 l4);(try clear f4);(try clear a5 l5);(try clear f5);have K:=K2;clear K2;(try have a0:=K.out.rd 0 rfl);(try have l0:=K.out.ltp 0 rfl);(try have f0:=K.out.fr 0 rfl);(try have a1:=K.out.rd 1 rfl);(try have l1:=K.out.ltp 1 rfl);(try have f1:=K.out.fr 1 rfl);(try have a2:=K.out.rd 2 rfl);(try have l2:=K.out.ltp 2 rfl);(try have f2:=K.out.fr 2 rfl);(try have a3:=K.out.rd 3 rfl);(try have l3:=K.out.ltp 3 rfl);(try have f3:=K.out.fr 3 rfl)
  refine wpAnyH_done (by kernel_rfl) (NoPanic.normal ?_) _
  (have K1 : sat w _ _:=K.out.drew;clear K;(try clear a0 l0);(try clear a1 l1);(try clear a2 l2);(try clear a3 l3);have K:=Lib.hid K1;clear K1)
  have a0:=K.out.rd 0 rfl
  have l0:=K.out.ltp 0 rfl
  have a1:=K.out.rd 1 rfl
  have l1:=K.out.ltp 1 rfl
  have a2:=K.out.rd 2 rfl
  have l2:=K.out.ltp 2 rfl
  have a3:=K.out.rd 3 rfl
  have l3:=K.out.ltp 3 rfl
  go_wp2_with (first|(go_at_call 31;(with_reducible refine ((AL _).out).mono ?_);rintro e w1 ⟨rfl,hb⟩;have K1:=sat.grown (by repeat (with_reducible first|exact K.out|apply sat.alloc_any|apply sat.drew|apply sat.drewN)) hb;clear hb;have K2:=Lib.hid K1;clear K1 K;(try clear a0 l0);(try clear a1 l1);(try clear a2 l2);have K:=K2;clear K2;have a0:=K.out.rd 0 rfl;have l0:=K.out.ltp 0 rfl;have a1:=K.out.rd 1 rfl;have l1:=K.out.ltp 1 rfl)|(go_at_call 92;(with_reducible refine ((RI _).out).mono ?_);rintro e w1 ⟨rfl,hb⟩;have K1:=sat.grown (by repeat (with_reducible first|exact K.out|apply sat.alloc_any|apply sat.drew|apply sat.drewN)) hb;clear hb;have K2:=Lib.hid K1;clear K1 K;(try clear a0 l0);(try clear a1 l1);(try clear a2 l2);have K:=K2;clear K2;have a0:=K.out.rd 0 rfl;have l0:=K.out.ltp 0 rfl;have a1:=K.out.rd 1 rfl;have l1:=K.out.ltp 1 rfl;have a2:=K.out.rd 2 rfl;have l2:=K.out.ltp 2 rfl;have a3:=K.out.rd 3 rfl;have l3:=K.out.ltp 3 rfl;have a4:=K.out.rd 4 rfl;have l4:=K.out.ltp 4 rfl;have a5:=K.out.rd 5 rfl;have l5:=K.out.ltp 5 rfl)|(have _hp:=g14;((with_reducible refine at_alloc ?_);refine st_allocf K.out (fun _=>rfl) ?_;intro g15 w1 K1;have K2:=Lib.hid K1;clear K1 K;(try clear a0 l0);(try clear a1 l1);(try clear a2 l2);have K:=K2;clear K2;have a0:=K.out.rd 0 rfl;have l0:=K.out.ltp 0 rfl;have a1:=K.out.rd 1 rfl;have l1:=K.out.ltp 1 rfl;have a2:=K.out.rd 2 rfl;have l2:=K.out.ltp 2 rfl;have a3:=K.out.rd 3 rfl;have l3:=K.out.ltp 3 rfl;have a4:=K.out.rd 4 rfl;have l4:=K.out.ltp 4 rfl;have a5:=K.out.rd 5 rfl;have l5:=K.out.ltp 5 rfl))|(have _hp:=g12;((with_reducible refine at_alloc ?_);refine st_allocf K.out (fun _=>rfl) ?_;intro g14 w1 K1;have K2:=Lib.hid K1;clear K1 K;(try clear a0 l0);(try clear a1 l1);(try clear a2 l2);have K:=K2;clear K2;have a0:=K.out.rd 0 rfl;have l0:=K.out.ltp 0 rfl;have a1:=K.out.rd 1 rfl;have l1:=K.out.ltp 1 rfl;have a2:=K.out.rd 2 rfl;have l2:=K.out.ltp 2 rfl;have a3:=K.out.rd 3 rfl;have l3:=K.out.ltp 3 rfl;have a4:=K.out.rd 4 rfl;have l4:=K.out.ltp 4 rfl))|(have _hp:=g11;((with_reducible refine at_alloc ?_);refine st_allocf K.out (fun _=>rfl) ?_;intro g12 w1 K1;have K2:=Lib.hid K1;clear K1 K;(try clear a0 l0);(try clear a1 l1);(try clear a2 l2);have K:=K2;clear K2;have a0:=K.out.rd 0 rfl;have l0:=K.out.ltp 0 rfl;have a1:=K.out.rd 1 rfl;have l1:=K.out.ltp 1 rfl;have a2:=K.out.rd 2 rfl;have l2:=K.out.ltp 2 rfl;have a3:=K.out.rd 3 rfl;have l3:=K.out.ltp 3 rfl))|((with_reducible refine at_alloc ?_);refine st_allocf K.out (fun _=>rfl) ?_;intro g11 w1 K1;have K2:=Lib.hid K1;clear K1 K;(try clear a0 l0);(try clear a1 l1);(try clear a2 l2);have K:=K2;clear K2;have a0:=K.out.rd 0 rfl;have l0:=K.out.ltp 0 rfl;have a1:=K.out.rd 1 rfl;have l1:=K.out.ltp 1 rfl;have a2:=K.out.rd 2 rfl;have l2:=K.out.ltp 2 rfl)|(have _hp:=g11;(go_at_call 91;(with_reducible refine ((N _).out).mono ?_);rintro e w1 ⟨rfl,hb⟩;have K1:=sat.grown (by repeat (with_reducible first|exact K.out|apply sat.alloc_any|apply sat.drew|apply sat.drewN)) hb;clear hb;have K2:=Lib.hid K1;clear K1 K;(try clear a0 l0);(try clear a1 l1);(try clear a2 l2);have K:=K2;clear K2;have a0:=K.out.rd 0 rfl;have l0:=K.out.ltp 0 rfl;have a1:=K.out.rd 1 rfl;have l1:=K.out.ltp 1 rfl;have a2:=K.out.rd 2 rfl;have l2:=K.out.ltp 2 rfl))|(go_at_call 91;(with_reducible refine ((W _).out).mono ?_);rintro e w1 ⟨rfl,hb⟩;have K1:=sat.grown (by repeat (with_reducible first|exact K.out|apply sat.alloc_any|apply sat.drew|apply sat.drewN)) hb;clear hb;have K2:=Lib.hid K1;clear K1 K;(try clear a0 l0);(try clear a1 l1);(try clear a2 l2);have K:=K2;clear K2;have a0:=K.out.rd 0 rfl;have l0:=K.out.ltp 0 rfl;have a1:=K.out.rd 1 rfl;have l1:=K.out.ltp 1 rfl)|(have _hp:=g15;((with_reducible refine at_store ?_);refine st_store 0 K.out rfl rfl rfl rfl ?_ ?_ ?_ ?_;(· kernel_rfl);(· simp);(· simp [Value.oneCell']);intro w1 K1;simp only [List.set,putL] at K1;have K2:=Lib.hid K1;clear K1 K;(try clear a0 l0);(try clear a1 l1);(try clear a2 l2);have K:=K2;clear K2;have a0:=K.out.rd 0 rfl;have l0:=K.out.ltp 0 rfl;have a1:=K.out.rd 1 rfl;have l1:=K.out.ltp 1 rfl;have a2:=K.out.rd 2 rfl;have l2:=K.out.ltp 2 rfl;have a3:=K.out.rd 3 rfl;have l3:=K.out.ltp 3 rfl;have a4:=K.out.rd 4 rfl;have l4:=K.out.ltp 4 rfl;have a5:=K.out.rd 5 rfl;have l5:=K.out.ltp 5 rfl))|(have _hp:=g14;(fail_if_success (have _hq:=g15));((with_reducible refine at_store ?_);refine st_store 0 K.out rfl rfl rfl rfl ?_ ?_ ?_ ?_;(· kernel_rfl);(· simp);(· simp [Value.oneCell']);intro w1 K1;simp only [List.set,putL] at K1;have K2:=Lib.hid K1;clear K1 K;(try clear a0 l0);(try clear a1 l1);(try clear a2 l2);have K:=K2;clear K2;have a0:=K.out.rd 0 rfl;have l0:=K.out.ltp 0 rfl;have a1:=K.out.rd 1 rfl;have l1:=K.out.ltp 1 rfl;have a2:=K.out.rd 2 rfl;have l2:=K.out.ltp 2 rfl;have a3:=K.out.rd 3 rfl;have l3:=K.out.ltp 3 rfl;have a4:=K.out.rd 4 rfl;have l4:=K.out.ltp 4 rfl))|(have _hp:=g12;(fail_if_success (have _hq:=g14));((with_reducible refine at_store ?_);refine st_store 0 K.out rfl rfl rfl rfl ?_ ?_ ?_ ?_;(· kernel_rfl);(· simp);(· simp [Value.oneCell']);intro w1 K1;simp only [List.set,putL] at K1;have K2:=Lib.hid K1;clear K1 K;(try clear a0 l0);(try clear a1 l1);(try clear a2 l2);have K:=K2;clear K2;have a0:=K.out.rd 0 rfl;have l0:=K.out.ltp 0 rfl;have a1:=K.out.rd 1 rfl;have l1:=K.out.ltp 1 rfl;have a2:=K.out.rd 2 rfl;have l2:=K.out.ltp 2 rfl;have a3:=K.out.rd 3 rfl;have l3:=K.out.ltp 3 rfl))|(have _hp:=g11;(fail_if_success (have _hq:=g12));((with_reducible refine at_store ?_);refine st_store 0 K.out rfl rfl rfl rfl ?_ ?_ ?_ ?_;(· kernel_rfl);(· simp);(· simp [Value.oneCell']);intro w1 K1;simp only [List.set,putL] at K1;have K2:=Lib.hid K1;clear K1 K;(try clear a0 l0);(try clear a1 l1);(try clear a2 l2);have K:=K2;clear K2;have a0:=K.out.rd 0 rfl;have l0:=K.out.ltp 0 rfl;have a1:=K.out.rd 1 rfl;have l1:=K.out.ltp 1 rfl;have a2:=K.out.rd 2 rfl;have l2:=K.out.ltp 2 rfl)))
  all_goals (go_ret;exact ⟨ret_b (by simp_all),(show sat w _ _ from by first|exact K.out|exact K.out.drew).below⟩)
end
end Go.Proofs.YtegdhojhnmgjgaaGreat
