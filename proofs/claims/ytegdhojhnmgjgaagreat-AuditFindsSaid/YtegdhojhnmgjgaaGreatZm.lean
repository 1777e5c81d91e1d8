/- Several texts in one: AuditL3 AuditG AuditI LogV. Each says ahead of it what it shows. -/
import Derived.Test.YtegdhojhnmgjgaaGreatZk
import Derived.Test.YtegdhojhnmgjgaaGreatZl
import Derived.Test.YtegdhojhnmgjgaaGreatBt
import Derived.Test.YtegdhojhnmgjgaaGreatBc
import Derived.Test.YtegdhojhnmgjgaaGreatBe
import Derived.Test.YtegdhojhnmgjgaaGreatZa
set_option linter.unusedVariables false
set_option linter.unusedSimpArgs false
/- Whether an event may be behind others, as the statement itself reckons it (stackyardlaw17.may). Conditions: a Right layout; the events lie in memory as told; numbers within their kinds. -/
namespace Go.Proofs.YtegdhojhnmgjgaaGreat
open Go.RowKit Go.SepYtegdhojhnmgjgaaGreat Go.Maps
set_option maxRecDepth 100000
set_option maxHeartbeats 4000000
section
variable {E w : World} {L : List SA}
theorem lmay_hazard (c : ConfM) (hc : c.ok) (p : Option Addr) (l : List Ev) (cap : Nat) (e : Ev) (w : World) (hl : l.length ≤ 1000000) (hwf : ∀ e ∈ l,Ev.wf e) (he : Ev.wf e) (h : OldE w p l) (h0 : 0 ≤ e.who) (h1 : e.who < c.th) (h2 : 0 ≤ e.cell) (h3 : e.cell < c.cells) (h4 : e.old = lastM l e.cell) (hkc : 2 * c.all ≤ e.cell) (hkd : e.cell < 2 * c.all + c.th) :
    Tells 66 #[.agg #[.int .i64 c.th,.int .i64 c.sl,.int .i64 c.src,.int .i64 c.dl],.slice p l.length cap,.agg e.v.toArray] w (.bool (e.op == 0 || (e.op == 1 && e.who == e.cell - 2 * c.all))):=by
  have K:=Lib.hid (sat.start w)
  have CN:=fun w'=>Lib.hid (cellsn_calls c w' hc)
  have AL:=fun w'=>Lib.hid (all_calls c w' hc)
  have HB:=Lib.hid h
  have LA:=fun w' x (hb : Below w.heap.size w w')=>Lib.hid (last_calls p l cap x w' hl (h.grown hb))
  have hal:=hc.all_bd
  have hth1:=hc.th1
  have hth2:=hc.th2
  have hsl:=hc.sl1
  have hcl : c.cells = 2 * c.all + 2 * c.th:=rfl
  have hcell : e.cell ≤ 8400:=by omega
  have w6 : wrap64 (2 * c.all) = 2 * c.all:=w64 (by omega) (by omega)
  have t6 : decide (e.cell < c.all) = false:=by simp;omega
  have t7 : decide (e.cell < 2 * c.all) = false:=by simp;omega
  have t8 : decide (e.cell < 2 * c.all + c.th) = true:=by simpa using hkd
  have t5 : (e.old != lastM l e.cell) = false:=by simp [h4]
  have t1 : decide (e.who < 0) = false:=by simp;omega
  have t2 : decide (e.who ≥ c.th) = false:=by simp;omega
  have t3 : decide (e.cell < 0) = false:=by simp;omega
  have t4 : decide (e.cell ≥ c.cells) = false:=by simp;omega
  clear h hwf he hcl hc hl h4 hkd h3 h0 h1
  go_enter Tryz.func66,Tryz.ntmps66
  go_wp2_with (first|(have _hp:=gc;((with_reducible refine at_box ?_);refine st_boxf K.out rfl rfl (fun _=>rfl) ?_;intro ge w1 K1;have K2:=Lib.hid K1;clear K1 K;(try clear a0 l0);(try clear a1 l1);(try clear a2 l2);have K:=K2;clear K2;have a0:=K.out.rd 0 rfl;have l0:=K.out.ltp 0 rfl;have a1:=K.out.rd 1 rfl;have l1:=K.out.ltp 1 rfl))|((with_reducible refine at_box ?_);refine st_boxf K.out rfl rfl (fun _=>rfl) ?_;intro gc w1 K1;have K2:=Lib.hid K1;clear K1 K;(try clear a0 l0);(try clear a1 l1);(try clear a2 l2);have K:=K2;clear K2;have a0:=K.out.rd 0 rfl;have l0:=K.out.ltp 0 rfl))
  refine wp_region_noPanic ?_
  refine wp_region_held_drew (S:=(fun w'=>(∀ j,w'.cell? ⟨ge,j,none⟩ = e.v[j]?) ∧ (∀ j,w'.cell? ⟨gc,j,none⟩ = [Value.int .i64 c.th,.int .i64 c.sl,.int .i64 c.src,.int .i64 c.dl][j]?))) (by kernel_rfl) ?_ (fun hHeld=>?_)
  · ((try dsimp only);(refine lawS (E:=w) (M:=[]) ?_;first|exact K.out|exact K.out.drew))
  refine tk 0 (some 21) ?_
  try simp only[Act.put,p0,p1,p2]
  refine tk 1 (some 22) ?_
  try simp only[Act.put,p0,p1,p2]
  refine tk 2 (some 23) ?_
  try simp only[Act.put,p0,p1,p2]
  refine tk 3 (some 24) ?_
  try simp only[Act.put,p0,p1,p2]
  refine tk 4 (some 25) ?_
  try simp only[Act.put,p0,p1,p2]
  refine tk 5 (some 26) ?_
  try simp only[Act.put,p0,p1,p2]
  refine tk 6 (some 27) ?_
  try simp only[Act.put,p0,p1,p2]
  refine tk 7 (some 28) ?_
  try simp only[Act.put,p0,p1,p2]
  refine tk 8 (some 29) ?_
  try simp only[Act.put,p0,p1,p2]
  refine tk 9 (some 30) ?_
  try simp only[Act.put,p0,p1,p2]
  refine tk 10 (some 31) ?_
  try simp only[Act.put,p0,p1,p2]
  refine tk 11 (some 32) ?_
  try simp only[Act.put,p0,p1,p2]
  refine tk 12 (some 33) ?_
  try simp only[Act.put,p0,p1,p2]
  refine tk 13 (some 34) ?_
  try simp only[Act.put,p0,p1,p2]
  refine tk 14 (some 35) ?_
  try simp only[Act.put,p0,p1,p2]
  refine tk 15 (some 36) ?_
  try simp only[Act.put,p0,p1,p2]
  refine tk 16 (some 37) ?_
  try simp only[Act.put,p0,p1,p2]
  refine tk 17 (some 38) ?_
  try simp only[Act.put,p0,p1,p2]
  refine tk 18 (some 39) ?_
  try simp only[Act.put,p0,p1,p2]
  refine wpAnyH_ready (rs:=[19]) (by kernel_rfl) (by simp) ?_
  refine AllReadyH.cons (o:=_) rfl (fun kC hkC=>?_) AllReadyH.nil
  go_simp
  (first|((first|(go_at_call 18;(with_reducible refine ((CN _).out).mono ?_))|(go_at_call 90;(with_reducible refine ((LA _ _ K.out.below).out).mono ?_))|(go_at_call 90;(with_reducible refine ((LA _ _ K.out.drew.below).out).mono ?_)));rintro e w1 ⟨rfl,hb⟩;have K1:=sat.grown (show sat _ _ _ from by first|exact K.out|exact K.out.drew) hb;clear hb;have K2:=Lib.hid K1;clear K1 K;have K:=K2;clear K2))
  refine shown hkC _ _ (by (try dsimp only);(refine lawS (E:=w) (M:=[]) ?_;first|exact K.out|exact K.out.drew)) ?_;clear hkC kC hHeld;intro hHeld
  try simp only[Act.put,p0,p1,p2]
  refine tk 20 (some 41) ?_
  try simp only[Act.put,p0,p1,p2]
  refine tk 21 (some 42) ?_
  try simp only[Act.put,p0,p1,p2]
  refine tk 22 (some 43) ?_
  try simp only[Act.put,p0,p1,p2]
  refine tk 23 (some 44) ?_
  try simp only[Act.put,p0,p1,p2]
  refine tk 24 (some 45) ?_
  try simp only[Act.put,p0,p1,p2]
  refine tk 25 (some 46) ?_
  try simp only[Act.put,p0,p1,p2]
  refine tk 26 (some 47) ?_
  try simp only[Act.put,p0,p1,p2]
  refine tk 27 (some 48) ?_
  try simp only[Act.put,p0,p1,p2]
  refine wpAnyH_ready (rs:=[28]) (by kernel_rfl) (by simp) ?_
  refine AllReadyH.cons (o:=_) rfl (fun kC hkC=>?_) AllReadyH.nil
  go_simp
  (first|((first|(go_at_call 18;(with_reducible refine ((CN _).out).mono ?_))|(go_at_call 90;(with_reducible refine ((LA _ _ K.out.below).out).mono ?_))|(go_at_call 90;(with_reducible refine ((LA _ _ K.out.drew.below).out).mono ?_)));rintro e w1 ⟨rfl,hb⟩;have K1:=sat.grown (show sat _ _ _ from by first|exact K.out|exact K.out.drew) hb;clear hb;have K2:=Lib.hid K1;clear K1 K;have K:=K2;clear K2))
  refine shown hkC _ _ (by (try dsimp only);(refine lawS (E:=w) (M:=[]) ?_;first|exact K.out|exact K.out.drew)) ?_;clear hkC kC hHeld;intro hHeld
  try simp only[Act.put,p0,p1,p2]
  refine tk 29 (some 50) ?_
  try simp only[Act.put,p0,p1,p2]
  refine tk 30 (some 51) ?_
  try simp only[Act.put,p0,p1,p2]
  have K1:=K.out;have K2:=Lib.hid K1;clear K1 K;(try clear a0 l0);(try clear f0);(try clear a1 l1);(try clear f1);(try clear a2 l2);(try clear f2);(try clear a3 l3);(try clear f3);(try clear a4 l4);(try clear f4);(try clear a5 l5);(try clear f5);have K:=K2;clear K2;(try have a0:=K.out.rd 0 rfl);(try have l0:=K.out.ltp 0 rfl);(try have f0:=K.out.fr 0 rfl);(try have a1:=K.out.rd 1 rfl);(try have l1:=K.out.ltp 1 rfl);(try have f1:=K.out.fr 1 rfl);(try have a2:=K.out.rd 2 rfl);(try have l2:=K.out.ltp 2 rfl);(try have f2:=K.out.fr 2 rfl);(try have a3:=K.out.rd 3 rfl);(try have l3:=K.out.ltp 3 rfl);(try have f3:=K.out.fr 3 rfl)
  refine wpAnyH_done (by kernel_rfl) (NoPanic.normal ?_) _
  (have K1 : sat w _ _:=(by first|exact K.out|exact K.out.drew);clear K;(try clear a0 l0);(try clear a1 l1);have K:=Lib.hid K1;clear K1)
  have a0:=K.out.rd 0 rfl
  have l0:=K.out.ltp 0 rfl
  have a1:=K.out.rd 1 rfl
  have l1:=K.out.ltp 1 rfl
  go_wp2_with (first|(go_at_call 31;(with_reducible refine ((AL _).out).mono ?_);rintro e w1 ⟨rfl,hb⟩;have K1:=sat.grown (by repeat (with_reducible first|exact K.out|apply sat.alloc_any|apply sat.drew|apply sat.drewN)) hb;clear hb;have K2:=Lib.hid K1;clear K1 K;(try clear a0 l0);(try clear a1 l1);(try clear a2 l2);have K:=K2;clear K2;have a0:=K.out.rd 0 rfl;have l0:=K.out.ltp 0 rfl;have a1:=K.out.rd 1 rfl;have l1:=K.out.ltp 1 rfl))
  all_goals (go_ret;exact ⟨ret_b (by simp_all),(show sat w _ _ from by first|exact K.out|exact K.out.drew).below⟩)
theorem lmay_number0 (c : ConfM) (hc : c.ok) (p : Option Addr) (l : List Ev) (cap : Nat) (e : Ev) (w : World) (hl : l.length ≤ 1000000) (hwf : ∀ e ∈ l,Ev.wf e) (he : Ev.wf e) (h : OldE w p l) (h0 : 0 ≤ e.who) (h1 : e.who < c.th) (h2 : 0 ≤ e.cell) (h3 : e.cell < c.cells) (h4 : e.old = lastM l e.cell) (hkc : 2 * c.all + c.th ≤ e.cell) (hs : c.src = 0) :
    Tells 66 #[.agg #[.int .i64 c.th,.int .i64 c.sl,.int .i64 c.src,.int .i64 c.dl],.slice p l.length cap,.agg e.v.toArray] w (.bool (numberB c e (e.cell - 2 * c.all - c.th))):=by
  have K:=Lib.hid (sat.start w)
  have CN:=fun w'=>Lib.hid (cellsn_calls c w' hc)
  have AL:=fun w'=>Lib.hid (all_calls c w' hc)
  have HB:=Lib.hid h
  have LA:=fun w' x (hb : Below w.heap.size w w')=>Lib.hid (last_calls p l cap x w' hl (h.grown hb))
  have hal:=hc.all_bd
  have hth1:=hc.th1
  have hth2:=hc.th2
  have hsl:=hc.sl1
  have hcl : c.cells = 2 * c.all + 2 * c.th:=rfl
  have hcell : e.cell ≤ 8400:=by omega
  have w6 : wrap64 (2 * c.all) = 2 * c.all:=w64 (by omega) (by omega)
  have t6 : decide (e.cell < c.all) = false:=by simp;omega
  have t7 : decide (e.cell < 2 * c.all) = false:=by simp;omega
  unfold numberB
  have t8 : decide (e.cell < 2 * c.all + c.th) = false:=by simp;omega
  have hw1 : IntKind.u64.wrap (e.old + 1) = u64M (e.old + 1):=by rw [IntKind.wrap_u64];rfl
  have hw2 : (e.old + 1) % 18446744073709551616 = u64M (e.old + 1):=rfl
  generalize u64M (e.old + 1) = nx at *
  have s0 : (c.src == 0) = true:=by simp [hs]
  rw [if_pos hs]
  clear hs
  have t5 : (e.old != lastM l e.cell) = false:=by simp [h4]
  have t1 : decide (e.who < 0) = false:=by simp;omega
  have t2 : decide (e.who ≥ c.th) = false:=by simp;omega
  have t3 : decide (e.cell < 0) = false:=by simp;omega
  have t4 : decide (e.cell ≥ c.cells) = false:=by simp;omega
  clear h hwf he hcl hc hl h4 hkc h3 h0 h1
  go_enter Tryz.func66,Tryz.ntmps66
  go_wp2_with (first|(have _hp:=gc;((with_reducible refine at_box ?_);refine st_boxf K.out rfl rfl (fun _=>rfl) ?_;intro ge w1 K1;have K2:=Lib.hid K1;clear K1 K;(try clear a0 l0);(try clear a1 l1);(try clear a2 l2);have K:=K2;clear K2;have a0:=K.out.rd 0 rfl;have l0:=K.out.ltp 0 rfl;have a1:=K.out.rd 1 rfl;have l1:=K.out.ltp 1 rfl))|((with_reducible refine at_box ?_);refine st_boxf K.out rfl rfl (fun _=>rfl) ?_;intro gc w1 K1;have K2:=Lib.hid K1;clear K1 K;(try clear a0 l0);(try clear a1 l1);(try clear a2 l2);have K:=K2;clear K2;have a0:=K.out.rd 0 rfl;have l0:=K.out.ltp 0 rfl))
  refine wp_region_noPanic ?_
  refine wp_region_held_drew (S:=(fun w'=>(∀ j,w'.cell? ⟨ge,j,none⟩ = e.v[j]?) ∧ (∀ j,w'.cell? ⟨gc,j,none⟩ = [Value.int .i64 c.th,.int .i64 c.sl,.int .i64 c.src,.int .i64 c.dl][j]?))) (by kernel_rfl) ?_ (fun hHeld=>?_)
  · ((try dsimp only);(refine lawS (E:=w) (M:=[]) ?_;first|exact K.out|exact K.out.drew))
  refine tk 0 (some 21) ?_
  try simp only[Act.put,p0,p1,p2]
  refine tk 1 (some 22) ?_
  try simp only[Act.put,p0,p1,p2]
  refine tk 2 (some 23) ?_
  try simp only[Act.put,p0,p1,p2]
  refine tk 3 (some 24) ?_
  try simp only[Act.put,p0,p1,p2]
  refine tk 4 (some 25) ?_
  try simp only[Act.put,p0,p1,p2]
  refine tk 5 (some 26) ?_
  try simp only[Act.put,p0,p1,p2]
  refine tk 6 (some 27) ?_
  try simp only[Act.put,p0,p1,p2]
  refine tk 7 (some 28) ?_
  try simp only[Act.put,p0,p1,p2]
  refine tk 8 (some 29) ?_
  try simp only[Act.put,p0,p1,p2]
  refine tk 9 (some 30) ?_
  try simp only[Act.put,p0,p1,p2]
  refine tk 10 (some 31) ?_
  try simp only[Act.put,p0,p1,p2]
  refine tk 11 (some 32) ?_
  try simp only[Act.put,p0,p1,p2]
  refine tk 12 (some 33) ?_
  try simp only[Act.put,p0,p1,p2]
  refine tk 13 (some 34) ?_
  try simp only[Act.put,p0,p1,p2]
  refine tk 14 (some 35) ?_
  try simp only[Act.put,p0,p1,p2]
  refine tk 15 (some 36) ?_
  try simp only[Act.put,p0,p1,p2]
  refine tk 16 (some 37) ?_
  try simp only[Act.put,p0,p1,p2]
  refine tk 17 (some 38) ?_
  try simp only[Act.put,p0,p1,p2]
  refine tk 18 (some 39) ?_
  try simp only[Act.put,p0,p1,p2]
  refine wpAnyH_ready (rs:=[19]) (by kernel_rfl) (by simp) ?_
  refine AllReadyH.cons (o:=_) rfl (fun kC hkC=>?_) AllReadyH.nil
  go_simp
  (first|((first|(go_at_call 18;(with_reducible refine ((CN _).out).mono ?_))|(go_at_call 90;(with_reducible refine ((LA _ _ K.out.below).out).mono ?_))|(go_at_call 90;(with_reducible refine ((LA _ _ K.out.drew.below).out).mono ?_)));rintro e w1 ⟨rfl,hb⟩;have K1:=sat.grown (show sat _ _ _ from by first|exact K.out|exact K.out.drew) hb;clear hb;have K2:=Lib.hid K1;clear K1 K;have K:=K2;clear K2))
  refine shown hkC _ _ (by (try dsimp only);(refine lawS (E:=w) (M:=[]) ?_;first|exact K.out|exact K.out.drew)) ?_;clear hkC kC hHeld;intro hHeld
  try simp only[Act.put,p0,p1,p2]
  refine tk 20 (some 41) ?_
  try simp only[Act.put,p0,p1,p2]
  refine tk 21 (some 42) ?_
  try simp only[Act.put,p0,p1,p2]
  refine tk 22 (some 43) ?_
  try simp only[Act.put,p0,p1,p2]
  refine tk 23 (some 44) ?_
  try simp only[Act.put,p0,p1,p2]
  refine tk 24 (some 45) ?_
  try simp only[Act.put,p0,p1,p2]
  refine tk 25 (some 46) ?_
  try simp only[Act.put,p0,p1,p2]
  refine tk 26 (some 47) ?_
  try simp only[Act.put,p0,p1,p2]
  refine tk 27 (some 48) ?_
  try simp only[Act.put,p0,p1,p2]
  refine wpAnyH_ready (rs:=[28]) (by kernel_rfl) (by simp) ?_
  refine AllReadyH.cons (o:=_) rfl (fun kC hkC=>?_) AllReadyH.nil
  go_simp
  (first|((first|(go_at_call 18;(with_reducible refine ((CN _).out).mono ?_))|(go_at_call 90;(with_reducible refine ((LA _ _ K.out.below).out).mono ?_))|(go_at_call 90;(with_reducible refine ((LA _ _ K.out.drew.below).out).mono ?_)));rintro e w1 ⟨rfl,hb⟩;have K1:=sat.grown (show sat _ _ _ from by first|exact K.out|exact K.out.drew) hb;clear hb;have K2:=Lib.hid K1;clear K1 K;have K:=K2;clear K2))
  refine shown hkC _ _ (by (try dsimp only);(refine lawS (E:=w) (M:=[]) ?_;first|exact K.out|exact K.out.drew)) ?_;clear hkC kC hHeld;intro hHeld
  try simp only[Act.put,p0,p1,p2]
  refine tk 29 (some 50) ?_
  try simp only[Act.put,p0,p1,p2]
  refine tk 30 (some 51) ?_
  try simp only[Act.put,p0,p1,p2]
  have K1:=K.out;have K2:=Lib.hid K1;clear K1 K;(try clear a0 l0);(try clear f0);(try clear a1 l1);(try clear f1);(try clear a2 l2);(try clear f2);(try clear a3 l3);(try clear f3);(try clear a4 l4);(try clear f4);(try clear a5 l5);(try clear f5);have K:=K2;clear K2;(try have a0:=K.out.rd 0 rfl);(try have l0:=K.out.ltp 0 rfl);(try have f0:=K.out.fr 0 rfl);(try have a1:=K.out.rd 1 rfl);(try have l1:=K.out.ltp 1 rfl);(try have f1:=K.out.fr 1 rfl);(try have a2:=K.out.rd 2 rfl);(try have l2:=K.out.ltp 2 rfl);(try have f2:=K.out.fr 2 rfl);(try have a3:=K.out.rd 3 rfl);(try have l3:=K.out.ltp 3 rfl);(try have f3:=K.out.fr 3 rfl)
  refine wpAnyH_done (by kernel_rfl) (NoPanic.normal ?_) _
  (have K1 : sat w _ _:=(by first|exact K.out|exact K.out.drew);clear K;(try clear a0 l0);(try clear a1 l1);have K:=Lib.hid K1;clear K1)
  have a0:=K.out.rd 0 rfl
  have l0:=K.out.ltp 0 rfl
  have a1:=K.out.rd 1 rfl
  have l1:=K.out.ltp 1 rfl
  go_wp2_with (first|(go_at_call 31;(with_reducible refine ((AL _).out).mono ?_);rintro e w1 ⟨rfl,hb⟩;have K1:=sat.grown (by repeat (with_reducible first|exact K.out|apply sat.alloc_any|apply sat.drew|apply sat.drewN)) hb;clear hb;have K2:=Lib.hid K1;clear K1 K;(try clear a0 l0);(try clear a1 l1);(try clear a2 l2);have K:=K2;clear K2;have a0:=K.out.rd 0 rfl;have l0:=K.out.ltp 0 rfl;have a1:=K.out.rd 1 rfl;have l1:=K.out.ltp 1 rfl))
  all_goals (go_ret;exact ⟨ret_b (by simp_all),(show sat w _ _ from by first|exact K.out|exact K.out.drew).below⟩)
theorem lmay_number1 (c : ConfM) (hc : c.ok) (p : Option Addr) (l : List Ev) (cap : Nat) (e : Ev) (w : World) (hl : l.length ≤ 1000000) (hwf : ∀ e ∈ l,Ev.wf e) (he : Ev.wf e) (h : OldE w p l) (h0 : 0 ≤ e.who) (h1 : e.who < c.th) (h2 : 0 ≤ e.cell) (h3 : e.cell < c.cells) (h4 : e.old = lastM l e.cell) (hkc : 2 * c.all + c.th ≤ e.cell) (hs : c.src = 1) :
    Tells 66 #[.agg #[.int .i64 c.th,.int .i64 c.sl,.int .i64 c.src,.int .i64 c.dl],.slice p l.length cap,.agg e.v.toArray] w (.bool (numberB c e (e.cell - 2 * c.all - c.th))):=by
  have K:=Lib.hid (sat.start w)
  have CN:=fun w'=>Lib.hid (cellsn_calls c w' hc)
  have AL:=fun w'=>Lib.hid (all_calls c w' hc)
  have HB:=Lib.hid h
  have LA:=fun w' x (hb : Below w.heap.size w w')=>Lib.hid (last_calls p l cap x w' hl (h.grown hb))
  have hal:=hc.all_bd
  have hth1:=hc.th1
  have hth2:=hc.th2
  have hsl:=hc.sl1
  have hcl : c.cells = 2 * c.all + 2 * c.th:=rfl
  have hcell : e.cell ≤ 8400:=by omega
  have w6 : wrap64 (2 * c.all) = 2 * c.all:=w64 (by omega) (by omega)
  have t6 : decide (e.cell < c.all) = false:=by simp;omega
  have t7 : decide (e.cell < 2 * c.all) = false:=by simp;omega
  unfold numberB
  have t8 : decide (e.cell < 2 * c.all + c.th) = false:=by simp;omega
  have hw1 : IntKind.u64.wrap (e.old + 1) = u64M (e.old + 1):=by rw [IntKind.wrap_u64];rfl
  have hw2 : (e.old + 1) % 18446744073709551616 = u64M (e.old + 1):=rfl
  generalize u64M (e.old + 1) = nx at *
  have s0 : (c.src == 0) = false:=by simp [hs]
  have s1 : (c.src == 1) = true:=by simp [hs]
  rw [if_neg (by omega),if_pos hs]
  clear hs
  have t5 : (e.old != lastM l e.cell) = false:=by simp [h4]
  have t1 : decide (e.who < 0) = false:=by simp;omega
  have t2 : decide (e.who ≥ c.th) = false:=by simp;omega
  have t3 : decide (e.cell < 0) = false:=by simp;omega
  have t4 : decide (e.cell ≥ c.cells) = false:=by simp;omega
  clear h hwf he hcl hc hl h4 hkc h3 h0 h1
  go_enter Tryz.func66,Tryz.ntmps66
  go_wp2_with (first|(have _hp:=gc;((with_reducible refine at_box ?_);refine st_boxf K.out rfl rfl (fun _=>rfl) ?_;intro ge w1 K1;have K2:=Lib.hid K1;clear K1 K;(try clear a0 l0);(try clear a1 l1);(try clear a2 l2);have K:=K2;clear K2;have a0:=K.out.rd 0 rfl;have l0:=K.out.ltp 0 rfl;have a1:=K.out.rd 1 rfl;have l1:=K.out.ltp 1 rfl))|((with_reducible refine at_box ?_);refine st_boxf K.out rfl rfl (fun _=>rfl) ?_;intro gc w1 K1;have K2:=Lib.hid K1;clear K1 K;(try clear a0 l0);(try clear a1 l1);(try clear a2 l2);have K:=K2;clear K2;have a0:=K.out.rd 0 rfl;have l0:=K.out.ltp 0 rfl))
  refine wp_region_noPanic ?_
  refine wp_region_held_drew (S:=(fun w'=>(∀ j,w'.cell? ⟨ge,j,none⟩ = e.v[j]?) ∧ (∀ j,w'.cell? ⟨gc,j,none⟩ = [Value.int .i64 c.th,.int .i64 c.sl,.int .i64 c.src,.int .i64 c.dl][j]?))) (by kernel_rfl) ?_ (fun hHeld=>?_)
  · ((try dsimp only);(refine lawS (E:=w) (M:=[]) ?_;first|exact K.out|exact K.out.drew))
  refine tk 0 (some 21) ?_
  try simp only[Act.put,p0,p1,p2]
  refine tk 1 (some 22) ?_
  try simp only[Act.put,p0,p1,p2]
  refine tk 2 (some 23) ?_
  try simp only[Act.put,p0,p1,p2]
  refine tk 3 (some 24) ?_
  try simp only[Act.put,p0,p1,p2]
  refine tk 4 (some 25) ?_
  try simp only[Act.put,p0,p1,p2]
  refine tk 5 (some 26) ?_
  try simp only[Act.put,p0,p1,p2]
  refine tk 6 (some 27) ?_
  try simp only[Act.put,p0,p1,p2]
  refine tk 7 (some 28) ?_
  try simp only[Act.put,p0,p1,p2]
  refine tk 8 (some 29) ?_
  try simp only[Act.put,p0,p1,p2]
  refine tk 9 (some 30) ?_
  try simp only[Act.put,p0,p1,p2]
  refine tk 10 (some 31) ?_
  try simp only[Act.put,p0,p1,p2]
  refine tk 11 (some 32) ?_
  try simp only[Act.put,p0,p1,p2]
  refine tk 12 (some 33) ?_
  try simp only[Act.put,p0,p1,p2]
  refine tk 13 (some 34) ?_
  try simp only[Act.put,p0,p1,p2]
  refine tk 14 (some 35) ?_
  try simp only[Act.put,p0,p1,p2]
  refine tk 15 (some 36) ?_
  try simp only[Act.put,p0,p1,p2]
  refine tk 16 (some 37) ?_
  try simp only[Act.put,p0,p1,p2]
  refine tk 17 (some 38) ?_
  try simp only[Act.put,p0,p1,p2]
  refine tk 18 (some 39) ?_
  try simp only[Act.put,p0,p1,p2]
  refine wpAnyH_ready (rs:=[19]) (by kernel_rfl) (by simp) ?_
  refine AllReadyH.cons (o:=_) rfl (fun kC hkC=>?_) AllReadyH.nil
  go_simp
  (first|((first|(go_at_call 18;(with_reducible refine ((CN _).out).mono ?_))|(go_at_call 90;(with_reducible refine ((LA _ _ K.out.below).out).mono ?_))|(go_at_call 90;(with_reducible refine ((LA _ _ K.out.drew.below).out).mono ?_)));rintro e w1 ⟨rfl,hb⟩;have K1:=sat.grown (show sat _ _ _ from by first|exact K.out|exact K.out.drew) hb;clear hb;have K2:=Lib.hid K1;clear K1 K;have K:=K2;clear K2))
  refine shown hkC _ _ (by (try dsimp only);(refine lawS (E:=w) (M:=[]) ?_;first|exact K.out|exact K.out.drew)) ?_;clear hkC kC hHeld;intro hHeld
  try simp only[Act.put,p0,p1,p2]
  refine tk 20 (some 41) ?_
  try simp only[Act.put,p0,p1,p2]
  refine tk 21 (some 42) ?_
  try simp only[Act.put,p0,p1,p2]
  refine tk 22 (some 43) ?_
  try simp only[Act.put,p0,p1,p2]
  refine tk 23 (some 44) ?_
  try simp only[Act.put,p0,p1,p2]
  refine tk 24 (some 45) ?_
  try simp only[Act.put,p0,p1,p2]
  refine tk 25 (some 46) ?_
  try simp only[Act.put,p0,p1,p2]
  refine tk 26 (some 47) ?_
  try simp only[Act.put,p0,p1,p2]
  refine tk 27 (some 48) ?_
  try simp only[Act.put,p0,p1,p2]
  refine wpAnyH_ready (rs:=[28]) (by kernel_rfl) (by simp) ?_
  refine AllReadyH.cons (o:=_) rfl (fun kC hkC=>?_) AllReadyH.nil
  go_simp
  (first|((first|(go_at_call 18;(with_reducible refine ((CN _).out).mono ?_))|(go_at_call 90;(with_reducible refine ((LA _ _ K.out.below).out).mono ?_))|(go_at_call 90;(with_reducible refine ((LA _ _ K.out.drew.below).out).mono ?_)));rintro e w1 ⟨rfl,hb⟩;have K1:=sat.grown (show sat _ _ _ from by first|exact K.out|exact K.out.drew) hb;clear hb;have K2:=Lib.hid K1;clear K1 K;have K:=K2;clear K2))
  refine shown hkC _ _ (by (try dsimp only);(refine lawS (E:=w) (M:=[]) ?_;first|exact K.out|exact K.out.drew)) ?_;clear hkC kC hHeld;intro hHeld
  try simp only[Act.put,p0,p1,p2]
  refine tk 29 (some 50) ?_
  try simp only[Act.put,p0,p1,p2]
  refine tk 30 (some 51) ?_
  try simp only[Act.put,p0,p1,p2]
  have K1:=K.out;have K2:=Lib.hid K1;clear K1 K;(try clear a0 l0);(try clear f0);(try clear a1 l1);(try clear f1);(try clear a2 l2);(try clear f2);(try clear a3 l3);(try clear f3);(try clear a4 l4);(try clear f4);(try clear a5 l5);(try clear f5);have K:=K2;clear K2;(try have a0:=K.out.rd 0 rfl);(try have l0:=K.out.ltp 0 rfl);(try have f0:=K.out.fr 0 rfl);(try have a1:=K.out.rd 1 rfl);(try have l1:=K.out.ltp 1 rfl);(try have f1:=K.out.fr 1 rfl);(try have a2:=K.out.rd 2 rfl);(try have l2:=K.out.ltp 2 rfl);(try have f2:=K.out.fr 2 rfl);(try have a3:=K.out.rd 3 rfl);(try have l3:=K.out.ltp 3 rfl);(try have f3:=K.out.fr 3 rfl)
  refine wpAnyH_done (by kernel_rfl) (NoPanic.normal ?_) _
  (have K1 : sat w _ _:=(by first|exact K.out|exact K.out.drew);clear K;(try clear a0 l0);(try clear a1 l1);have K:=Lib.hid K1;clear K1)
  have a0:=K.out.rd 0 rfl
  have l0:=K.out.ltp 0 rfl
  have a1:=K.out.rd 1 rfl
  have l1:=K.out.ltp 1 rfl
  go_wp2_with (first|(go_at_call 31;(with_reducible refine ((AL _).out).mono ?_);rintro e w1 ⟨rfl,hb⟩;have K1:=sat.grown (by repeat (with_reducible first|exact K.out|apply sat.alloc_any|apply sat.drew|apply sat.drewN)) hb;clear hb;have K2:=Lib.hid K1;clear K1 K;(try clear a0 l0);(try clear a1 l1);(try clear a2 l2);have K:=K2;clear K2;have a0:=K.out.rd 0 rfl;have l0:=K.out.ltp 0 rfl;have a1:=K.out.rd 1 rfl;have l1:=K.out.ltp 1 rfl))
  all_goals (go_ret;exact ⟨ret_b (by simp_all),(show sat w _ _ from by first|exact K.out|exact K.out.drew).below⟩)
theorem lmay_number2 (c : ConfM) (hc : c.ok) (p : Option Addr) (l : List Ev) (cap : Nat) (e : Ev) (w : World) (hl : l.length ≤ 1000000) (hwf : ∀ e ∈ l,Ev.wf e) (he : Ev.wf e) (h : OldE w p l) (h0 : 0 ≤ e.who) (h1 : e.who < c.th) (h2 : 0 ≤ e.cell) (h3 : e.cell < c.cells) (h4 : e.old = lastM l e.cell) (hkc : 2 * c.all + c.th ≤ e.cell) (hs : c.src = 2) :
    Tells 66 #[.agg #[.int .i64 c.th,.int .i64 c.sl,.int .i64 c.src,.int .i64 c.dl],.slice p l.length cap,.agg e.v.toArray] w (.bool (numberB c e (e.cell - 2 * c.all - c.th))):=by
  have K:=Lib.hid (sat.start w)
  have CN:=fun w'=>Lib.hid (cellsn_calls c w' hc)
  have AL:=fun w'=>Lib.hid (all_calls c w' hc)
  have HB:=Lib.hid h
  have LA:=fun w' x (hb : Below w.heap.size w w')=>Lib.hid (last_calls p l cap x w' hl (h.grown hb))
  have hal:=hc.all_bd
  have hth1:=hc.th1
  have hth2:=hc.th2
  have hsl:=hc.sl1
  have hcl : c.cells = 2 * c.all + 2 * c.th:=rfl
  have hcell : e.cell ≤ 8400:=by omega
  have w6 : wrap64 (2 * c.all) = 2 * c.all:=w64 (by omega) (by omega)
  have t6 : decide (e.cell < c.all) = false:=by simp;omega
  have t7 : decide (e.cell < 2 * c.all) = false:=by simp;omega
  unfold numberB
  have t8 : decide (e.cell < 2 * c.all + c.th) = false:=by simp;omega
  have hw1 : IntKind.u64.wrap (e.old + 1) = u64M (e.old + 1):=by rw [IntKind.wrap_u64];rfl
  have hw2 : (e.old + 1) % 18446744073709551616 = u64M (e.old + 1):=rfl
  generalize u64M (e.old + 1) = nx at *
  have s0 : (c.src == 0) = false:=by simp [hs]
  have s1 : (c.src == 1) = false:=by simp [hs]
  have s2 : (c.src == 2) = true:=by simp [hs]
  rw [if_neg (by omega),if_neg (by omega),if_pos hs]
  clear hs
  have t5 : (e.old != lastM l e.cell) = false:=by simp [h4]
  have t1 : decide (e.who < 0) = false:=by simp;omega
  have t2 : decide (e.who ≥ c.th) = false:=by simp;omega
  have t3 : decide (e.cell < 0) = false:=by simp;omega
  have t4 : decide (e.cell ≥ c.cells) = false:=by simp;omega
  clear h hwf he hcl hc hl h4 hkc h3 h0 h1
  go_enter Tryz.func66,Tryz.ntmps66
  go_wp2_with (first|(have _hp:=gc;((with_reducible refine at_box ?_);refine st_boxf K.out rfl rfl (fun _=>rfl) ?_;intro ge w1 K1;have K2:=Lib.hid K1;clear K1 K;(try clear a0 l0);(try clear a1 l1);(try clear a2 l2);have K:=K2;clear K2;have a0:=K.out.rd 0 rfl;have l0:=K.out.ltp 0 rfl;have a1:=K.out.rd 1 rfl;have l1:=K.out.ltp 1 rfl))|((with_reducible refine at_box ?_);refine st_boxf K.out rfl rfl (fun _=>rfl) ?_;intro gc w1 K1;have K2:=Lib.hid K1;clear K1 K;(try clear a0 l0);(try clear a1 l1);(try clear a2 l2);have K:=K2;clear K2;have a0:=K.out.rd 0 rfl;have l0:=K.out.ltp 0 rfl))
  refine wp_region_noPanic ?_
  refine wp_region_held_drew (S:=(fun w'=>(∀ j,w'.cell? ⟨ge,j,none⟩ = e.v[j]?) ∧ (∀ j,w'.cell? ⟨gc,j,none⟩ = [Value.int .i64 c.th,.int .i64 c.sl,.int .i64 c.src,.int .i64 c.dl][j]?))) (by kernel_rfl) ?_ (fun hHeld=>?_)
  · ((try dsimp only);(refine lawS (E:=w) (M:=[]) ?_;first|exact K.out|exact K.out.drew))
  refine tk 0 (some 21) ?_
  try simp only[Act.put,p0,p1,p2]
  refine tk 1 (some 22) ?_
  try simp only[Act.put,p0,p1,p2]
  refine tk 2 (some 23) ?_
  try simp only[Act.put,p0,p1,p2]
  refine tk 3 (some 24) ?_
  try simp only[Act.put,p0,p1,p2]
  refine tk 4 (some 25) ?_
  try simp only[Act.put,p0,p1,p2]
  refine tk 5 (some 26) ?_
  try simp only[Act.put,p0,p1,p2]
  refine tk 6 (some 27) ?_
  try simp only[Act.put,p0,p1,p2]
  refine tk 7 (some 28) ?_
  try simp only[Act.put,p0,p1,p2]
  refine tk 8 (some 29) ?_
  try simp only[Act.put,p0,p1,p2]
  refine tk 9 (some 30) ?_
  try simp only[Act.put,p0,p1,p2]
  refine tk 10 (some 31) ?_
  try simp only[Act.put,p0,p1,p2]
  refine tk 11 (some 32) ?_
  try simp only[Act.put,p0,p1,p2]
  refine tk 12 (some 33) ?_
  try simp only[Act.put,p0,p1,p2]
  refine tk 13 (some 34) ?_
  try simp only[Act.put,p0,p1,p2]
  refine tk 14 (some 35) ?_
  try simp only[Act.put,p0,p1,p2]
  refine tk 15 (some 36) ?_
  try simp only[Act.put,p0,p1,p2]
  refine tk 16 (some 37) ?_
  try simp only[Act.put,p0,p1,p2]
  refine tk 17 (some 38) ?_
  try simp only[Act.put,p0,p1,p2]
  refine tk 18 (some 39) ?_
  try simp only[Act.put,p0,p1,p2]
  refine wpAnyH_ready (rs:=[19]) (by kernel_rfl) (by simp) ?_
  refine AllReadyH.cons (o:=_) rfl (fun kC hkC=>?_) AllReadyH.nil
  go_simp
  (first|((first|(go_at_call 18;(with_reducible refine ((CN _).out).mono ?_))|(go_at_call 90;(with_reducible refine ((LA _ _ K.out.below).out).mono ?_))|(go_at_call 90;(with_reducible refine ((LA _ _ K.out.drew.below).out).mono ?_)));rintro e w1 ⟨rfl,hb⟩;have K1:=sat.grown (show sat _ _ _ from by first|exact K.out|exact K.out.drew) hb;clear hb;have K2:=Lib.hid K1;clear K1 K;have K:=K2;clear K2))
  refine shown hkC _ _ (by (try dsimp only);(refine lawS (E:=w) (M:=[]) ?_;first|exact K.out|exact K.out.drew)) ?_;clear hkC kC hHeld;intro hHeld
  try simp only[Act.put,p0,p1,p2]
  refine tk 20 (some 41) ?_
  try simp only[Act.put,p0,p1,p2]
  refine tk 21 (some 42) ?_
  try simp only[Act.put,p0,p1,p2]
  refine tk 22 (some 43) ?_
  try simp only[Act.put,p0,p1,p2]
  refine tk 23 (some 44) ?_
  try simp only[Act.put,p0,p1,p2]
  refine tk 24 (some 45) ?_
  try simp only[Act.put,p0,p1,p2]
  refine tk 25 (some 46) ?_
  try simp only[Act.put,p0,p1,p2]
  refine tk 26 (some 47) ?_
  try simp only[Act.put,p0,p1,p2]
  refine tk 27 (some 48) ?_
  try simp only[Act.put,p0,p1,p2]
  refine wpAnyH_ready (rs:=[28]) (by kernel_rfl) (by simp) ?_
  refine AllReadyH.cons (o:=_) rfl (fun kC hkC=>?_) AllReadyH.nil
  go_simp
  (first|((first|(go_at_call 18;(with_reducible refine ((CN _).out).mono ?_))|(go_at_call 90;(with_reducible refine ((LA _ _ K.out.below).out).mono ?_))|(go_at_call 90;(with_reducible refine ((LA _ _ K.out.drew.below).out).mono ?_)));rintro e w1 ⟨rfl,hb⟩;have K1:=sat.grown (show sat _ _ _ from by first|exact K.out|exact K.out.drew) hb;clear hb;have K2:=Lib.hid K1;clear K1 K;have K:=K2;clear K2))
  refine shown hkC _ _ (by (try dsimp only);(refine lawS (E:=w) (M:=[]) ?_;first|exact K.out|exact K.out.drew)) ?_;clear hkC kC hHeld;intro hHeld
  try simp only[Act.put,p0,p1,p2]
  refine tk 29 (some 50) ?_
  try simp only[Act.put,p0,p1,p2]
  refine tk 30 (some 51) ?_
  try simp only[Act.put,p0,p1,p2]
  have K1:=K.out;have K2:=Lib.hid K1;clear K1 K;(try clear a0 l0);(try clear f0);(try clear a1 l1);(try clear f1);(try clear a2 l2);(try clear f2);(try clear a3 l3);(try clear f3);(try clear a4 l4);(try clear f4);(try clear a5 l5);(try clear f5);have K:=K2;clear K2;(try have a0:=K.out.rd 0 rfl);(try have l0:=K.out.ltp 0 rfl);(try have f0:=K.out.fr 0 rfl);(try have a1:=K.out.rd 1 rfl);(try have l1:=K.out.ltp 1 rfl);(try have f1:=K.out.fr 1 rfl);(try have a2:=K.out.rd 2 rfl);(try have l2:=K.out.ltp 2 rfl);(try have f2:=K.out.fr 2 rfl);(try have a3:=K.out.rd 3 rfl);(try have l3:=K.out.ltp 3 rfl);(try have f3:=K.out.fr 3 rfl)
  refine wpAnyH_done (by kernel_rfl) (NoPanic.normal ?_) _
  (have K1 : sat w _ _:=(by first|exact K.out|exact K.out.drew);clear K;(try clear a0 l0);(try clear a1 l1);have K:=Lib.hid K1;clear K1)
  have a0:=K.out.rd 0 rfl
  have l0:=K.out.ltp 0 rfl
  have a1:=K.out.rd 1 rfl
  have l1:=K.out.ltp 1 rfl
  go_wp2_with (first|(go_at_call 31;(with_reducible refine ((AL _).out).mono ?_);rintro e w1 ⟨rfl,hb⟩;have K1:=sat.grown (by repeat (with_reducible first|exact K.out|apply sat.alloc_any|apply sat.drew|apply sat.drewN)) hb;clear hb;have K2:=Lib.hid K1;clear K1 K;(try clear a0 l0);(try clear a1 l1);(try clear a2 l2);have K:=K2;clear K2;have a0:=K.out.rd 0 rfl;have l0:=K.out.ltp 0 rfl;have a1:=K.out.rd 1 rfl;have l1:=K.out.ltp 1 rfl))
  all_goals (go_ret;exact ⟨ret_b (by simp_all),(show sat w _ _ from by first|exact K.out|exact K.out.drew).below⟩)
theorem lmay_numberx (c : ConfM) (hc : c.ok) (p : Option Addr) (l : List Ev) (cap : Nat) (e : Ev) (w : World) (hl : l.length ≤ 1000000) (hwf : ∀ e ∈ l,Ev.wf e) (he : Ev.wf e) (h : OldE w p l) (h0 : 0 ≤ e.who) (h1 : e.who < c.th) (h2 : 0 ≤ e.cell) (h3 : e.cell < c.cells) (h4 : e.old = lastM l e.cell) (hkc : 2 * c.all + c.th ≤ e.cell) (hs0 : c.src ≠ 0) (hs1 : c.src ≠ 1) (hs2 : c.src ≠ 2) :
    Tells 66 #[.agg #[.int .i64 c.th,.int .i64 c.sl,.int .i64 c.src,.int .i64 c.dl],.slice p l.length cap,.agg e.v.toArray] w (.bool (numberB c e (e.cell - 2 * c.all - c.th))):=by
  have K:=Lib.hid (sat.start w)
  have CN:=fun w'=>Lib.hid (cellsn_calls c w' hc)
  have AL:=fun w'=>Lib.hid (all_calls c w' hc)
  have HB:=Lib.hid h
  have LA:=fun w' x (hb : Below w.heap.size w w')=>Lib.hid (last_calls p l cap x w' hl (h.grown hb))
  have hal:=hc.all_bd
  have hth1:=hc.th1
  have hth2:=hc.th2
  have hsl:=hc.sl1
  have hcl : c.cells = 2 * c.all + 2 * c.th:=rfl
  have hcell : e.cell ≤ 8400:=by omega
  have w6 : wrap64 (2 * c.all) = 2 * c.all:=w64 (by omega) (by omega)
  have t6 : decide (e.cell < c.all) = false:=by simp;omega
  have t7 : decide (e.cell < 2 * c.all) = false:=by simp;omega
  unfold numberB
  have t8 : decide (e.cell < 2 * c.all + c.th) = false:=by simp;omega
  have hw1 : IntKind.u64.wrap (e.old + 1) = u64M (e.old + 1):=by rw [IntKind.wrap_u64];rfl
  have hw2 : (e.old + 1) % 18446744073709551616 = u64M (e.old + 1):=rfl
  generalize u64M (e.old + 1) = nx at *
  have s0 : (c.src == 0) = false:=by simp [hs0]
  have s1 : (c.src == 1) = false:=by simp [hs1]
  have s2 : (c.src == 2) = false:=by simp [hs2]
  rw [if_neg hs0,if_neg hs1,if_neg hs2]
  clear hs0 hs1 hs2
  have t5 : (e.old != lastM l e.cell) = false:=by simp [h4]
  have t1 : decide (e.who < 0) = false:=by simp;omega
  have t2 : decide (e.who ≥ c.th) = false:=by simp;omega
  have t3 : decide (e.cell < 0) = false:=by simp;omega
  have t4 : decide (e.cell ≥ c.cells) = false:=by simp;omega
  clear h hwf he hcl hc hl h4 hkc h3 h0 h1
  go_enter Tryz.func66,Tryz.ntmps66
  go_wp2_with (first|(have _hp:=gc;((with_reducible refine at_box ?_);refine st_boxf K.out rfl rfl (fun _=>rfl) ?_;intro ge w1 K1;have K2:=Lib.hid K1;clear K1 K;(try clear a0 l0);(try clear a1 l1);(try clear a2 l2);have K:=K2;clear K2;have a0:=K.out.rd 0 rfl;have l0:=K.out.ltp 0 rfl;have a1:=K.out.rd 1 rfl;have l1:=K.out.ltp 1 rfl))|((with_reducible refine at_box ?_);refine st_boxf K.out rfl rfl (fun _=>rfl) ?_;intro gc w1 K1;have K2:=Lib.hid K1;clear K1 K;(try clear a0 l0);(try clear a1 l1);(try clear a2 l2);have K:=K2;clear K2;have a0:=K.out.rd 0 rfl;have l0:=K.out.ltp 0 rfl))
  refine wp_region_noPanic ?_
  refine wp_region_held_drew (S:=(fun w'=>(∀ j,w'.cell? ⟨ge,j,none⟩ = e.v[j]?) ∧ (∀ j,w'.cell? ⟨gc,j,none⟩ = [Value.int .i64 c.th,.int .i64 c.sl,.int .i64 c.src,.int .i64 c.dl][j]?))) (by kernel_rfl) ?_ (fun hHeld=>?_)
  · ((try dsimp only);(refine lawS (E:=w) (M:=[]) ?_;first|exact K.out|exact K.out.drew))
  refine tk 0 (some 21) ?_
  try simp only[Act.put,p0,p1,p2]
  refine tk 1 (some 22) ?_
  try simp only[Act.put,p0,p1,p2]
  refine tk 2 (some 23) ?_
  try simp only[Act.put,p0,p1,p2]
  refine tk 3 (some 24) ?_
  try simp only[Act.put,p0,p1,p2]
  refine tk 4 (some 25) ?_
  try simp only[Act.put,p0,p1,p2]
  refine tk 5 (some 26) ?_
  try simp only[Act.put,p0,p1,p2]
  refine tk 6 (some 27) ?_
  try simp only[Act.put,p0,p1,p2]
  refine tk 7 (some 28) ?_
  try simp only[Act.put,p0,p1,p2]
  refine tk 8 (some 29) ?_
  try simp only[Act.put,p0,p1,p2]
  refine tk 9 (some 30) ?_
  try simp only[Act.put,p0,p1,p2]
  refine tk 10 (some 31) ?_
  try simp only[Act.put,p0,p1,p2]
  refine tk 11 (some 32) ?_
  try simp only[Act.put,p0,p1,p2]
  refine tk 12 (some 33) ?_
  try simp only[Act.put,p0,p1,p2]
  refine tk 13 (some 34) ?_
  try simp only[Act.put,p0,p1,p2]
  refine tk 14 (some 35) ?_
  try simp only[Act.put,p0,p1,p2]
  refine tk 15 (some 36) ?_
  try simp only[Act.put,p0,p1,p2]
  refine tk 16 (some 37) ?_
  try simp only[Act.put,p0,p1,p2]
  refine tk 17 (some 38) ?_
  try simp only[Act.put,p0,p1,p2]
  refine tk 18 (some 39) ?_
  try simp only[Act.put,p0,p1,p2]
  refine wpAnyH_ready (rs:=[19]) (by kernel_rfl) (by simp) ?_
  refine AllReadyH.cons (o:=_) rfl (fun kC hkC=>?_) AllReadyH.nil
  go_simp
  (first|((first|(go_at_call 18;(with_reducible refine ((CN _).out).mono ?_))|(go_at_call 90;(with_reducible refine ((LA _ _ K.out.below).out).mono ?_))|(go_at_call 90;(with_reducible refine ((LA _ _ K.out.drew.below).out).mono ?_)));rintro e w1 ⟨rfl,hb⟩;have K1:=sat.grown (show sat _ _ _ from by first|exact K.out|exact K.out.drew) hb;clear hb;have K2:=Lib.hid K1;clear K1 K;have K:=K2;clear K2))
  refine shown hkC _ _ (by (try dsimp only);(refine lawS (E:=w) (M:=[]) ?_;first|exact K.out|exact K.out.drew)) ?_;clear hkC kC hHeld;intro hHeld
  try simp only[Act.put,p0,p1,p2]
  refine tk 20 (some 41) ?_
  try simp only[Act.put,p0,p1,p2]
  refine tk 21 (some 42) ?_
  try simp only[Act.put,p0,p1,p2]
  refine tk 22 (some 43) ?_
  try simp only[Act.put,p0,p1,p2]
  refine tk 23 (some 44) ?_
  try simp only[Act.put,p0,p1,p2]
  refine tk 24 (some 45) ?_
  try simp only[Act.put,p0,p1,p2]
  refine tk 25 (some 46) ?_
  try simp only[Act.put,p0,p1,p2]
  refine tk 26 (some 47) ?_
  try simp only[Act.put,p0,p1,p2]
  refine tk 27 (some 48) ?_
  try simp only[Act.put,p0,p1,p2]
  refine wpAnyH_ready (rs:=[28]) (by kernel_rfl) (by simp) ?_
  refine AllReadyH.cons (o:=_) rfl (fun kC hkC=>?_) AllReadyH.nil
  go_simp
  (first|((first|(go_at_call 18;(with_reducible refine ((CN _).out).mono ?_))|(go_at_call 90;(with_reducible refine ((LA _ _ K.out.below).out).mono ?_))|(go_at_call 90;(with_reducible refine ((LA _ _ K.out.drew.below).out).mono ?_)));rintro e w1 ⟨rfl,hb⟩;have K1:=sat.grown (show sat _ _ _ from by first|exact K.out|exact K.out.drew) hb;clear hb;have K2:=Lib.hid K1;clear K1 K;have K:=K2;clear K2))
  refine shown hkC _ _ (by (try dsimp only);(refine lawS (E:=w) (M:=[]) ?_;first|exact K.out|exact K.out.drew)) ?_;clear hkC kC hHeld;intro hHeld
  try simp only[Act.put,p0,p1,p2]
  refine tk 29 (some 50) ?_
  try simp only[Act.put,p0,p1,p2]
  refine tk 30 (some 51) ?_
  try simp only[Act.put,p0,p1,p2]
  have K1:=K.out;have K2:=Lib.hid K1;clear K1 K;(try clear a0 l0);(try clear f0);(try clear a1 l1);(try clear f1);(try clear a2 l2);(try clear f2);(try clear a3 l3);(try clear f3);(try clear a4 l4);(try clear f4);(try clear a5 l5);(try clear f5);have K:=K2;clear K2;(try have a0:=K.out.rd 0 rfl);(try have l0:=K.out.ltp 0 rfl);(try have f0:=K.out.fr 0 rfl);(try have a1:=K.out.rd 1 rfl);(try have l1:=K.out.ltp 1 rfl);(try have f1:=K.out.fr 1 rfl);(try have a2:=K.out.rd 2 rfl);(try have l2:=K.out.ltp 2 rfl);(try have f2:=K.out.fr 2 rfl);(try have a3:=K.out.rd 3 rfl);(try have l3:=K.out.ltp 3 rfl);(try have f3:=K.out.fr 3 rfl)
  refine wpAnyH_done (by kernel_rfl) (NoPanic.normal ?_) _
  (have K1 : sat w _ _:=(by first|exact K.out|exact K.out.drew);clear K;(try clear a0 l0);(try clear a1 l1);have K:=Lib.hid K1;clear K1)
  have a0:=K.out.rd 0 rfl
  have l0:=K.out.ltp 0 rfl
  have a1:=K.out.rd 1 rfl
  have l1:=K.out.ltp 1 rfl
  go_wp2_with (first|(go_at_call 31;(with_reducible refine ((AL _).out).mono ?_);rintro e w1 ⟨rfl,hb⟩;have K1:=sat.grown (by repeat (with_reducible first|exact K.out|apply sat.alloc_any|apply sat.drew|apply sat.drewN)) hb;clear hb;have K2:=Lib.hid K1;clear K1 K;(try clear a0 l0);(try clear a1 l1);(try clear a2 l2);have K:=K2;clear K2;have a0:=K.out.rd 0 rfl;have l0:=K.out.ltp 0 rfl;have a1:=K.out.rd 1 rfl;have l1:=K.out.ltp 1 rfl))
  all_goals (go_ret;exact ⟨ret_b (by simp_all),(show sat w _ _ from by first|exact K.out|exact K.out.drew).below⟩)
end
end Go.Proofs.YtegdhojhnmgjgaaGreat
/- The first event that may not be, as the statement itself reckons it (stackyardlaw17.may and first). Conditions: a Right layout; the events lie in memory as told; numbers within their kinds. -/
namespace Go.Proofs.YtegdhojhnmgjgaaGreat
open Go.RowKit Go.SepYtegdhojhnmgjgaaGreat Go.Maps
set_option maxRecDepth 100000
set_option maxHeartbeats 4000000
theorem lmay_calls (c : ConfM) (hc : c.ok) (p : Option Addr) (l : List Ev) (cap : Nat) (e : Ev) (w : World) (hl : l.length ≤ 1000000) (hwf : ∀ e ∈ l,Ev.wf e) (he : Ev.wf e) (h : OldE w p l) :
    Tells 66 #[.agg #[.int .i64 c.th,.int .i64 c.sl,.int .i64 c.src,.int .i64 c.dl],.slice p l.length cap,.agg e.v.toArray] w (.bool (okM c l e)):=by
  by_cases h0 : e.who < 0
  · exact lmay_w0 c hc p l cap e w hl hwf he h h0
  replace h0 : 0 ≤ e.who:=by omega
  by_cases h1 : c.th ≤ e.who
  · exact lmay_w1 c hc p l cap e w hl hwf he h h0 h1
  replace h1 : e.who < c.th:=by omega
  have hw : ¬(e.who < 0 ∨ c.th ≤ e.who):=by omega
  by_cases h2 : e.cell < 0
  · exact lmay_c0 c hc p l cap e w hl hwf he h h0 h1 h2
  replace h2 : 0 ≤ e.cell:=by omega
  by_cases h3 : c.cells ≤ e.cell
  · exact lmay_c1 c hc p l cap e w hl hwf he h h0 h1 h2 h3
  replace h3 : e.cell < c.cells:=by omega
  by_cases h4 : e.old = lastM l e.cell
  · by_cases k1 : e.cell < c.all
    · rw [ok_word hw h4 (kindM_w hc h2 k1)]
      by_cases o0 : e.op = 0
      · exact lmay_word0 c hc p l cap e w hl hwf he h h0 h1 h2 h3 h4 k1 o0
      by_cases o1 : e.op = 1
      · exact lmay_word1 c hc p l cap e w hl hwf he h h0 h1 h2 h3 h4 k1 o1
      by_cases o2 : e.op = 2
      · exact lmay_word2 c hc p l cap e w hl hwf he h h0 h1 h2 h3 h4 k1 o2
      exact lmay_wordx c hc p l cap e w hl hwf he h h0 h1 h2 h3 h4 k1 o0 o1 o2
    replace k1 : c.all ≤ e.cell:=by omega
    by_cases k2 : e.cell < 2 * c.all
    · rw [ok_value hw h4 (kindM_v hc k1 k2)]
      by_cases o0 : e.op = 0
      · cases hld : loadedM l e.who (e.cell - c.all) with
        | none => exact lmay_value0n c hc p l cap e w hl hwf he h h0 h1 h2 h3 h4 k1 k2 o0 hld
        | some x =>
          by_cases hg : (unpack x).gen = (unpack (lastM l (e.cell - c.all))).gen
          · by_cases hs : lastM l (c.hazard e.who) = u64M (e.cell - c.all + 1)
            · exact lmay_value0t c hc p l cap e w hl hwf he h h0 h1 h2 h3 h4 k1 k2 o0 x hld hg hs
            · exact lmay_value0f c hc p l cap e w hl hwf he h h0 h1 h2 h3 h4 k1 k2 o0 x hld hg hs
          · exact lmay_value0g c hc p l cap e w hl hwf he h h0 h1 h2 h3 h4 k1 k2 o0 x hld hg
      by_cases o1 : e.op = 1
      · by_cases ho : e.who = ownerM c (e.cell - c.all)
        · exact lmay_value1t c hc p l cap e w hl hwf he h h0 h1 h2 h3 h4 k1 k2 o1 ho
        · exact lmay_value1f c hc p l cap e w hl hwf he h h0 h1 h2 h3 h4 k1 k2 o1 ho
      exact lmay_valuex c hc p l cap e w hl hwf he h h0 h1 h2 h3 h4 k1 k2 o0 o1
    replace k2 : 2 * c.all ≤ e.cell:=by omega
    by_cases k3 : e.cell < 2 * c.all + c.th
    · rw [ok_hazard hw h4 (kindM_h hc k2 k3)]
      exact lmay_hazard c hc p l cap e w hl hwf he h h0 h1 h2 h3 h4 k2 k3
    replace k3 : 2 * c.all + c.th ≤ e.cell:=by omega
    rw [ok_number hw h4 (kindM_n hc k3 h3)]
    by_cases s0 : c.src = 0
    · exact lmay_number0 c hc p l cap e w hl hwf he h h0 h1 h2 h3 h4 k3 s0
    by_cases s1 : c.src = 1
    · exact lmay_number1 c hc p l cap e w hl hwf he h h0 h1 h2 h3 h4 k3 s1
    by_cases s2 : c.src = 2
    · exact lmay_number2 c hc p l cap e w hl hwf he h h0 h1 h2 h3 h4 k3 s2
    exact lmay_numberx c hc p l cap e w hl hwf he h h0 h1 h2 h3 h4 k3 s0 s1 s2
  · exact lmay_old c hc p l cap e w hl hwf he h h0 h1 h2 h3 h4
theorem lfirst_calls (c : ConfM) (hc : c.ok) (p : Option Addr) (l : List Ev) (cap : Nat) (w : World) (hl : l.length ≤ 1000000) (hcap : l.length ≤ cap) (hwf : ∀ e ∈ l,Ev.wf e) (h : OldE w p l) :
    Tells 47 #[.agg #[.int .i64 c.th,.int .i64 c.sl,.int .i64 c.src,.int .i64 c.dl],.slice p l.length cap] w (.int .i64 (firstM c [] l)):=by
  have K:=Lib.hid (sat.start w)
  have H:=Lib.hid h
  have HW:=Lib.hid hwf
  clear h hwf
  go_enter Tryz.func47,Tryz.ntmps47
  go_wp2_with (first|((with_reducible refine at_box ?_);refine st_boxf K.out rfl rfl (fun _=>rfl) ?_;intro gc w1 K1;have K2:=Lib.hid K1;clear K1 K;(try clear a0 l0);(try clear a1 l1);(try clear a2 l2);have K:=K2;clear K2;have a0:=K.out.rd 0 rfl;have l0:=K.out.ltp 0 rfl))
  go_loopg [9] l.length (fun gk i w'=>∃ n : Nat,n + gk = l.length ∧ i = .int .i64 n ∧ firstM c [] l = firstM c (l.take n) (l.drop n) ∧ sat w w' [pt gc (.cells [.int .i64 c.th,.int .i64 c.sl,.int .i64 c.src,.int .i64 c.dl].toArray 26 (0,0))])
  case atStart=>exact ⟨0,by simp,rfl,by simp,K.out⟩
  case round =>
    obtain ⟨n,hn,rfl,hfi,hs⟩:=hrel
    clear K a0 l0
    have K:=Lib.hid hs
    clear hs
    have a0:=K.out.rd 0 rfl
    have l0:=K.out.ltp 0 rfl
    by_cases hlt : n < l.length
    · have d0 : decide (n < l.length) = true:=by simpa using hlt
      have HP:=Lib.hid (H.out.take n)
      obtain ⟨b,off,rfl,hb0,hx0⟩:=H.out n hlt
      have hx : ∀ i u,(Ev.v l[n])[i]? = some u → wr.cell? ⟨b,off + n * 6 + i,none⟩ = some u:=fun i u hi=>(K.out.below.cell (p:=⟨b,off + n * 6 + i,none⟩) hb0).trans (hx0 i u hi)
      have y0 : wr.cell? ⟨b,off + n * 6,none⟩ = _:=hx 0 _ rfl
      have y1:=hx 1 _ rfl
      have y2:=hx 2 _ rfl
      have y3:=hx 3 _ rfl
      have y4:=hx 4 _ rfl
      have y5:=hx 5 _ rfl
      have hwn:=HW.out l[n] (List.getElem_mem hlt)
      have hlen : (l.take n).length = n:=by rw [List.length_take];omega
      have MC:=fun w' (hb : Below w.heap.size w w')=>Lib.hid (lmay_calls c hc (some ⟨b,off,none⟩) (l.take n) cap l[n] w' (by omega) (fun e he=>HW.out e (List.mem_of_mem_take he)) hwn (HP.out.grown hb))
      rw [hlen] at MC
      have E1:=Lib.hid (show firstM c [] l = if okM c (l.take n) l[n] then firstM c (l.take (n + 1)) (l.drop (n + 1)) else (n : Int) from by
        rw [hfi,List.drop_eq_getElem_cons hlt,firstM,← List.take_succ_eq_append_getElem hlt,List.length_take,Nat.min_eq_left (by omega)])
      have HN:=Lib.hid hn
      have b0 : (0 : Int) ≤ (n : Int):=by omega
      have b1 : (n : Int) ≤ (cap : Int):=by omega
      have b2 : n ≤ cap:=by omega
      clear hx hx0 hn hfi hwn hlen
      generalize okM c (l.take n) l[n] = okn at *
      generalize l[n] = e at *
      obtain ⟨gk',rfl⟩ : ∃ g',gk = g' + 1:=⟨gk - 1,by have:=HN.out;omega⟩
      cases okn with
      | true =>
        go_wp2_with (first|((with_reducible refine at_alloc ?_);refine st_allocf K.out (fun _=>rfl) ?_;intro ge w1 K1;have K2:=Lib.hid K1;clear K1 K;(try clear a0 l0);(try clear a1 l1);(try clear a2 l2);have K:=K2;clear K2;have a0:=K.out.rd 0 rfl;have l0:=K.out.ltp 0 rfl;have a1:=K.out.rd 1 rfl;have l1:=K.out.ltp 1 rfl)|((with_reducible refine at_store ?_);refine st_store 0 K.out rfl rfl rfl rfl ?_ ?_ ?_ ?_;(· kernel_rfl);(· simp);(· simp [Value.oneCell']);intro w1 K1;simp only [List.set,putL] at K1;have K2:=Lib.hid K1;clear K1 K;(try clear a0 l0);(try clear a1 l1);(try clear a2 l2);have K:=K2;clear K2;have a0:=K.out.rd 0 rfl;have l0:=K.out.ltp 0 rfl;have a1:=K.out.rd 1 rfl;have l1:=K.out.ltp 1 rfl))
        refine wp_region_noPanic ?_
        refine wp_region_held_drew (S:=(fun w'=>(∀ j,w'.cell? ⟨ge,j,none⟩ = e.v[j]?) ∧ (∀ j,w'.cell? ⟨gc,j,none⟩ = [Value.int .i64 c.th,.int .i64 c.sl,.int .i64 c.src,.int .i64 c.dl][j]?))) (by kernel_rfl) ?_ (fun hHeld=>?_)
        · ((try dsimp only);(refine lawS (E:=w) (M:=[]) ?_;first|exact K.out|exact K.out.drew))
        refine tk 0 (some 14) ?_
        try simp only[Act.put,p0,p1,p2]
        refine tk 1 (some 15) ?_
        try simp only[Act.put,p0,p1,p2]
        refine tk 2 (some 16) ?_
        try simp only[Act.put,p0,p1,p2]
        refine tk 3 (some 17) ?_
        try simp only[Act.put,p0,p1,p2]
        refine tk 4 (some 18) ?_
        try simp only[Act.put,p0,p1,p2]
        refine wpAnyH_ready (rs:=[5]) (by kernel_rfl) (by simp) ?_
        refine AllReadyH.cons (o:=_) rfl (fun kC hkC=>?_) AllReadyH.nil
        go_simp
        (first|(go_at_call 66;(with_reducible refine ((MC _ K.out.drew.below).out).mono ?_);rintro e w1 ⟨rfl,hb⟩;have K1:=sat.grown (show sat _ _ _ from by first|exact K.out|exact K.out.drew) hb;clear hb;have K2:=Lib.hid K1;clear K1 K;(try clear a0 l0);(try clear f0);(try clear a1 l1);(try clear f1);(try clear a2 l2);(try clear f2);(try clear a3 l3);(try clear f3);(try clear a4 l4);(try clear f4);(try clear a5 l5);(try clear f5);have K:=K2;clear K2;(try have a0:=K.out.rd 0 rfl);(try have l0:=K.out.ltp 0 rfl);(try have f0:=K.out.fr 0 rfl);(try have a1:=K.out.rd 1 rfl);(try have l1:=K.out.ltp 1 rfl);(try have f1:=K.out.fr 1 rfl);(try have a2:=K.out.rd 2 rfl);(try have l2:=K.out.ltp 2 rfl);(try have f2:=K.out.fr 2 rfl);(try have a3:=K.out.rd 3 rfl);(try have l3:=K.out.ltp 3 rfl);(try have f3:=K.out.fr 3 rfl)))
        refine shown hkC _ _ (by (try dsimp only);(refine lawS (E:=w) (M:=[]) ?_;first|exact K.out|exact K.out.drew)) ?_;clear hkC kC hHeld;intro hHeld
        try simp only[Act.put,p0,p1,p2]
        refine tk 6 (some 20) ?_
        try simp only[Act.put,p0,p1,p2]
        refine wpAnyH_done (by kernel_rfl) (NoPanic.normal ?_) _
        go_wp2
        go_roundg gk'
        case measure=>omega
        case rel=>exact ⟨n + 1,by have:=HN.out;omega,by simp,by rw [E1.out];simp,K.out.drop⟩
      | false =>
        go_wp2_with (first|((with_reducible refine at_alloc ?_);refine st_allocf K.out (fun _=>rfl) ?_;intro ge w1 K1;have K2:=Lib.hid K1;clear K1 K;(try clear a0 l0);(try clear a1 l1);(try clear a2 l2);have K:=K2;clear K2;have a0:=K.out.rd 0 rfl;have l0:=K.out.ltp 0 rfl;have a1:=K.out.rd 1 rfl;have l1:=K.out.ltp 1 rfl)|((with_reducible refine at_store ?_);refine st_store 0 K.out rfl rfl rfl rfl ?_ ?_ ?_ ?_;(· kernel_rfl);(· simp);(· simp [Value.oneCell']);intro w1 K1;simp only [List.set,putL] at K1;have K2:=Lib.hid K1;clear K1 K;(try clear a0 l0);(try clear a1 l1);(try clear a2 l2);have K:=K2;clear K2;have a0:=K.out.rd 0 rfl;have l0:=K.out.ltp 0 rfl;have a1:=K.out.rd 1 rfl;have l1:=K.out.ltp 1 rfl))
        refine wp_region_noPanic ?_
        refine wp_region_held_drew (S:=(fun w'=>(∀ j,w'.cell? ⟨ge,j,none⟩ = e.v[j]?) ∧ (∀ j,w'.cell? ⟨gc,j,none⟩ = [Value.int .i64 c.th,.int .i64 c.sl,.int .i64 c.src,.int .i64 c.dl][j]?))) (by kernel_rfl) ?_ (fun hHeld=>?_)
        · ((try dsimp only);(refine lawS (E:=w) (M:=[]) ?_;first|exact K.out|exact K.out.drew))
        refine tk 0 (some 14) ?_
        try simp only[Act.put,p0,p1,p2]
        refine tk 1 (some 15) ?_
        try simp only[Act.put,p0,p1,p2]
        refine tk 2 (some 16) ?_
        try simp only[Act.put,p0,p1,p2]
        refine tk 3 (some 17) ?_
        try simp only[Act.put,p0,p1,p2]
        refine tk 4 (some 18) ?_
        try simp only[Act.put,p0,p1,p2]
        refine wpAnyH_ready (rs:=[5]) (by kernel_rfl) (by simp) ?_
        refine AllReadyH.cons (o:=_) rfl (fun kC hkC=>?_) AllReadyH.nil
        go_simp
        (first|(go_at_call 66;(with_reducible refine ((MC _ K.out.drew.below).out).mono ?_);rintro e w1 ⟨rfl,hb⟩;have K1:=sat.grown (show sat _ _ _ from by first|exact K.out|exact K.out.drew) hb;clear hb;have K2:=Lib.hid K1;clear K1 K;(try clear a0 l0);(try clear f0);(try clear a1 l1);(try clear f1);(try clear a2 l2);(try clear f2);(try clear a3 l3);(try clear f3);(try clear a4 l4);(try clear f4);(try clear a5 l5);(try clear f5);have K:=K2;clear K2;(try have a0:=K.out.rd 0 rfl);(try have l0:=K.out.ltp 0 rfl);(try have f0:=K.out.fr 0 rfl);(try have a1:=K.out.rd 1 rfl);(try have l1:=K.out.ltp 1 rfl);(try have f1:=K.out.fr 1 rfl);(try have a2:=K.out.rd 2 rfl);(try have l2:=K.out.ltp 2 rfl);(try have f2:=K.out.fr 2 rfl);(try have a3:=K.out.rd 3 rfl);(try have l3:=K.out.ltp 3 rfl);(try have f3:=K.out.fr 3 rfl)))
        refine shown hkC _ _ (by (try dsimp only);(refine lawS (E:=w) (M:=[]) ?_;first|exact K.out|exact K.out.drew)) ?_;clear hkC kC hHeld;intro hHeld
        try simp only[Act.put,p0,p1,p2]
        refine tk 6 (some 20) ?_
        try simp only[Act.put,p0,p1,p2]
        refine wpAnyH_done (by kernel_rfl) (NoPanic.normal ?_) _
        go_wp2
        go_ret
        exact ⟨ret_i (by rw [E1.out];simp),K.out.below⟩
    · have hnl : n = l.length:=by omega
      subst hnl
      have d0 : decide (l.length < l.length) = false:=by simp
      have E1:=Lib.hid (show firstM c [] l = -1 from by rw [hfi,List.drop_length];rfl)
      clear hfi
      go_wp2
      go_ret
      exact ⟨ret_i E1.out.symm,K.out.below⟩
end Go.Proofs.YtegdhojhnmgjgaaGreat
/- The example that stands ahead of each statement of audit (head); events of a row of one's own. No condition. -/
namespace Go.Proofs.YtegdhojhnmgjgaaGreat
open Go.RowKit Go.SepYtegdhojhnmgjgaaGreat Go.Maps
set_option maxRecDepth 100000
set_option maxHeartbeats 4000000
theorem oldE_one {E w : World} {L : List SA} {g t : Nat} {f : Nat × Nat} {e : Ev} (h : sat E w (pt g (.cells e.v.toArray t f) :: L)) : OldE w (some ⟨g,0,none⟩) [e]:=fun j hj=>by
  obtain rfl : j = 0:=by simp at hj;exact hj
  refine ⟨g,0,rfl,h.lt,fun i u hi=>?_⟩
  rw [show 0 + 0 * 6 + i = i by omega,h.rd 0 rfl i]
  exact hi
theorem head17_calls (w : World) : Tells 44 #[] w (.bool true):=by
  have K:=Lib.hid (sat.start w)
  have PK:=fun w'=>Lib.hid (show Tells 64 #[.agg #[.int .i64 1,.int .i64 0,.int .i64 1,.int .i64 0,.int .i64 0]] w' (.int .u64 9) from pack_calls ⟨1,0,1,⟨0,0⟩⟩ w')
  have F1:=fun w' p (h : OldE w' p [⟨1,1,0,0,9,true⟩])=>Lib.hid (show Tells 46 #[.agg #[.int .i64 2,.int .i64 1,.int .i64 0,.int .i64 0],.slice p 1 1] w' (.int .i64 0) from afirst_calls ⟨2,1,0,0⟩ (by constructor <;> decide) p [⟨1,1,0,0,9,true⟩] 1 w' (by decide) (by intro e he;obtain rfl:=List.mem_singleton.1 he;unfold Ev.wf;dsimp only;omega) h)
  have F2:=fun w' p (h : OldE w' p [⟨0,1,0,0,9,true⟩])=>Lib.hid (show Tells 46 #[.agg #[.int .i64 2,.int .i64 1,.int .i64 0,.int .i64 0],.slice p 1 1] w' (.int .i64 (-1)) from afirst_calls ⟨2,1,0,0⟩ (by constructor <;> decide) p [⟨0,1,0,0,9,true⟩] 1 w' (by decide) (by intro e he;obtain rfl:=List.mem_singleton.1 he;unfold Ev.wf;dsimp only;omega) h)
  go_enter Tryz.func44,Tryz.ntmps44
  go_wp2_with (first|((with_reducible refine at_alloc ?_);refine st_allocf K.out (fun _=>rfl) ?_;intro gc w1 K1;have K2:=Lib.hid K1;clear K1 K;(try clear a0 l0);(try clear a1 l1);(try clear a2 l2);have K:=K2;clear K2;have a0:=K.out.rd 0 rfl;have l0:=K.out.ltp 0 rfl)|((with_reducible refine at_store ?_);refine st_store 0 K.out rfl rfl rfl rfl ?_ ?_ ?_ ?_;(· kernel_rfl);(· simp);(· simp [Value.oneCell']);intro w1 K1;simp only [List.set,putL] at K1;have K2:=Lib.hid K1;clear K1 K;(try clear a0 l0);(try clear a1 l1);(try clear a2 l2);have K:=K2;clear K2;have a0:=K.out.rd 0 rfl;have l0:=K.out.ltp 0 rfl)|(go_at_call 64;(with_reducible refine ((PK _).out).mono ?_);rintro e w1 ⟨rfl,hb⟩;have K1:=sat.grown (by repeat (with_reducible first|exact K.out|apply sat.alloc_any|apply sat.drew|apply sat.drewN)) hb;clear hb;have K2:=Lib.hid K1;clear K1 K;(try clear a0 l0);(try clear a1 l1);(try clear a2 l2);have K:=K2;clear K2;have a0:=K.out.rd 0 rfl;have l0:=K.out.ltp 0 rfl)|(have _hp:=qF1;have KA : sat w (World.alloc _ (.cells #[.int .i64 0,.int .i64 1,.int .i64 0,.int .u64 0,.int .u64 9,.bool true] 85)) _:=K.out.alloc _;have o1:=oldE_one (e:=⟨0,1,0,0,9,true⟩) KA;go_at_call 46;(with_reducible refine ((F2 _ _ o1).out).mono ?_);rintro r w1 ⟨rfl,hb⟩;have K1:=(sat.grown KA hb).drop;clear KA o1 hb;have K2:=Lib.hid K1;clear K1 K;(try clear a0 l0);(try clear a1 l1);(try clear a2 l2);have K:=K2;clear K2;have a0:=K.out.rd 0 rfl;have l0:=K.out.ltp 0 rfl;have qF2:=true)|(have KA : sat w (World.alloc _ (.cells #[.int .i64 1,.int .i64 1,.int .i64 0,.int .u64 0,.int .u64 9,.bool true] 85)) _:=K.out.alloc _;have o1:=oldE_one (e:=⟨1,1,0,0,9,true⟩) KA;go_at_call 46;(with_reducible refine ((F1 _ _ o1).out).mono ?_);rintro r w1 ⟨rfl,hb⟩;have K1:=(sat.grown KA hb).drop;clear KA o1 hb;have K2:=Lib.hid K1;clear K1 K;(try clear a0 l0);(try clear a1 l1);(try clear a2 l2);have K:=K2;clear K2;have a0:=K.out.rd 0 rfl;have l0:=K.out.ltp 0 rfl;have qF1:=true))
  go_ret
  exact ⟨rfl,K.out.below⟩
theorem oldE_rowY {E w : World} {L : List SA} {p : Option Addr} {n c t : Nat} {l : List Ev} (h : sat E w (rowA (.slice p n c) t 6 l.length (evCells l) :: L)) : OldE w p l:=oldS_row ev_sz h
theorem row_capE {E w : World} {L : List SA} {p : Option Addr} {m c e size n : Nat} {xs : List Value} (h : sat E w (rowA (.slice p m c) e size n xs :: L)) : n ≤ c:=by
  obtain ⟨_,⟨h0,h1,_⟩|⟨g,cap,cur,h0,h1,_⟩⟩:=h.row_open
  · simp at h0;omega
  · simp at h0;omega
end Go.Proofs.YtegdhojhnmgjgaaGreat
/- What a yard notes are numbers as the program holds them: the same without the protocol. Plain lemmas on the model. -/
namespace Go.Proofs.YtegdhojhnmgjgaaGreat
def u64R (i : Int) : Prop:=0 ≤ i ∧ i < 18446744073709551616
def evOk (c : ConfM) (e : Ev) : Prop:=(0 ≤ e.who ∧ e.who < c.th) ∧ (0 ≤ e.cell ∧ e.cell < c.cells) ∧ u64R e.old ∧ u64R e.new
def logOk (c : ConfM) (m : MemM) : Prop:=∀ e ∈ m.log,evOk c e
theorem by_logOk {c : ConfM} {m m' : MemM} {w : Int} (hb : MemM.by w m m') (hw : m.wf) (hw' : m'.wf) (h : logOk c m) (hwho : 0 ≤ w ∧ w < c.th) (hcl : (m.cells.length : Int) = c.cells) : logOk c m':=by
  rcases hb with rfl|⟨op,cell,old,next,_,_,_,rfl⟩
  · exact h
  · by_cases hc : m.has cell
    · have e1 : (m.touch w op cell old next).cells = setI m.cells cell (opNew op (getI m.cells cell) old next):=by unfold MemM.touch;rw [if_pos hc]
      have e2 : (m.touch w op cell old next).log = m.log ++ [⟨w,op,cell,getI m.cells cell,opNew op (getI m.cells cell) old next,opOk op (getI m.cells cell) old⟩]:=by unfold MemM.touch;rw [if_pos hc]
      intro e he
      rw [e2] at he
      rcases List.mem_append.1 he with q|q
      · exact h e q
      · simp at q
        subst q
        have hc1:=hc.2
        rw [hcl] at hc1
        refine ⟨hwho,⟨hc.1,hc1⟩,getI_wf hw cell,?_⟩
        have:=getI_wf hw' cell
        rw [e1,getI_setI_of _ _ _ hc.1 hc.2] at this
        exact this
    · have e : m.touch w op cell old next = m:=by unfold MemM.touch;rw [if_neg hc]
      rw [e];exact h
structure YardM.linv (n : Nat) (y : YardM) : Prop where
  okn : y.okn n
  oinv : y.oinv
  log : logOk y.conf y.mem
theorem YardM.new_linv {c : ConfM} (hc : c.ok) : (YardM.new c).linv 0 :=
  ⟨YardM.new_okn hc,YardM.new_oinv hc,fun e he=>by simp [YardM.new,MemM.new] at he⟩
theorem MoveM.run_linv {n : Nat} {y : YardM} (h : y.linv n) (hn : n < 100000) (th : Int) {v : MoveM} (hv : v.wf) : (v.run th y).linv (n + 1):=by
  have hk:=MoveM.run_okn h.okn hn th hv
  have hS : ∀ who,(y.step who).1.okn (n + 1) → (y.step who).1.linv (n + 1):=fun who hk=>by
    have hS:=YardM.step_oinv h.oinv who
    refine ⟨hk,hS.oinv,?_⟩
    by_cases ht : y.there who = true
    · rw [hS.conf]
      exact by_logOk hS.mem h.okn.wf hk.wf h.log (YardM.there_bd ht) h.okn.cells
    · have e : (y.step who).1 = y:=by
        unfold YardM.step YardM.busy
        simp [ht]
      rw [e];exact h.log
  unfold MoveM.run at hk ⊢
  split
  · rw [if_pos (by assumption)] at hk
    have e : (y.call (v.at_ th) v.call).1.mem = y.mem ∧ (y.call (v.at_ th) v.call).1.conf = y.conf:=by
      unfold YardM.call;(repeat' split) <;> exact ⟨rfl,rfl⟩
    exact ⟨hk,YardM.call_oinv h.oinv _ _,by rw [e.1,e.2];exact h.log⟩
  · rw [if_neg (by assumption)] at hk
    split
    · rw [if_pos (by assumption)] at hk
      have e : (y.pass (v.time % 65536)).mem = y.mem ∧ (y.pass (v.time % 65536)).conf = y.conf:=by
        unfold YardM.pass;split <;> exact ⟨rfl,rfl⟩
      exact ⟨hk,YardM.pass_oinv h.oinv _,by rw [e.1,e.2];exact h.log⟩
    · rw [if_neg (by assumption)] at hk
      split
      · rw [if_pos (by assumption)] at hk
        exact hS _ hk
      · rw [if_neg (by assumption)] at hk
        exact hS _ hk
theorem runsM_linv (th : Int) : ∀ (l : List MoveM) {n : Nat} {y : YardM} (h : y.linv n),n + l.length ≤ 100000 → (∀ v ∈ l,v.wf) → (runsM th y l).linv (n + l.length)
  | [], n, y, h, _, _ => h
  | v :: l, n, y, h, hn, hv => by
    have a:=MoveM.run_linv h (by simp at hn;omega) th (hv v (by simp))
    have b:=runsM_linv th l a (by simp at hn;omega) (fun u hu=>hv u (by simp [hu]))
    rw [show n + (v :: l).length = n + 1 + l.length by simp;omega]
    exact b
theorem evOk_wf {c : ConfM} (hc : c.ok) {e : Ev} (h : evOk c e) : Ev.wf e:=by
  obtain ⟨h1,h2,h3,h4⟩:=h
  have:=hc.th2
  have:=hc.all_bd
  have hcl : c.cells ≤ 10000:=by unfold ConfM.cells;omega
  exact ⟨by omega,by omega,h3,h4⟩
end Go.Proofs.YtegdhojhnmgjgaaGreat
