/- Several texts in one: AuditL2. Each says ahead of it what it shows. -/
import Derived.Test.YtegdhojhnmgjgaaGreatZk
set_option linter.unusedVariables false
set_option linter.unusedSimpArgs false
/- Whether an event may be behind others, as the statement itself reckons it (stackyardlaw17.may). Conditions: a Right layout; the events lie in memory as told; numbers within their kinds. -/
namespace Go.Proofs.YtegdhojhnmgjgaaGreat
open Go.RowKit Go.SepYtegdhojhnmgjgaaGreat Go.Maps
set_option maxRecDepth 100000
set_option maxHeartbeats 4000000
theorem loadV_any (o : Option Int) : ∃ a b c d e f,loadV o = .tuple #[.agg #[.int .i64 a,.int .i64 b,.int .i64 c,.int .i64 d,.int .i64 e],.bool f]:=by
  cases o with
  | none => exact ⟨_, _, _, _, _, _, rfl⟩
  | some x => exact ⟨_, _, _, _, _, _, rfl⟩
section
variable {E w : World} {L : List SA}
theorem lawT {g8 g7 ge gc : Nat} {a0 a1 a2 a3 a4 : Int} {x : WordM} {e : Ev} {c : ConfM} {M : List SA} (h : sat E w (pt g8 (.cells [.int .i64 a0,.int .i64 a1,.int .i64 a2,.int .i64 a3,.int .i64 a4].toArray 122 (0,0)) :: wordA g7 x :: evA ge e :: pt gc (.cells [.int .i64 c.th,.int .i64 c.sl,.int .i64 c.src,.int .i64 c.dl].toArray 26 (0,0)) :: M)) :
    (∀ j,w.cell? ⟨g8,j,none⟩ = [Value.int .i64 a0,.int .i64 a1,.int .i64 a2,.int .i64 a3,.int .i64 a4][j]?) ∧ (∀ j,w.cell? ⟨g7,j,none⟩ = (wordL x)[j]?) ∧ (∀ j,w.cell? ⟨ge,j,none⟩ = e.v[j]?) ∧ (∀ j,w.cell? ⟨gc,j,none⟩ = [Value.int .i64 c.th,.int .i64 c.sl,.int .i64 c.src,.int .i64 c.dl][j]?):=⟨h.rd 0 rfl,h.rd 1 rfl,h.rd 2 rfl,h.rd 3 rfl⟩
theorem lmay_value0n (c : ConfM) (hc : c.ok) (p : Option Addr) (l : List Ev) (cap : Nat) (e : Ev) (w : World) (hl : l.length ≤ 1000000) (hwf : ∀ e ∈ l,Ev.wf e) (he : Ev.wf e) (h : OldE w p l) (h0 : 0 ≤ e.who) (h1 : e.who < c.th) (h2 : 0 ≤ e.cell) (h3 : e.cell < c.cells) (h4 : e.old = lastM l e.cell) (hkc : c.all ≤ e.cell) (hkd : e.cell < 2 * c.all) (ho : e.op = 0) (hld : loadedM l e.who (e.cell - c.all) = none) :
    Tells 66 #[.agg #[.int .i64 c.th,.int .i64 c.sl,.int .i64 c.src,.int .i64 c.dl],.slice p l.length cap,.agg e.v.toArray] w (.bool (valueB c (lastM l) (rdM l e.who (e.cell - c.all)) e (e.cell - c.all))):=by
  have K:=Lib.hid (sat.start w)
  have CN:=fun w'=>Lib.hid (cellsn_calls c w' hc)
  have AL:=fun w'=>Lib.hid (all_calls c w' hc)
  have HB:=Lib.hid h
  have LA:=fun w' x (hb : Below w.heap.size w w')=>Lib.hid (last_calls p l cap x w' hl (h.grown hb))
  have hal:=hc.all_bd
  have hth1:=hc.th1
  have hth2:=hc.th2
  have hsl:=hc.sl1
  have hcl : c.cells = 2 * c.all + 2 * c.th:=rfl
  have hcell : e.cell ≤ 8400:=by omega
  obtain ⟨slot,hslot⟩ : ∃ s,s = e.cell - c.all:=⟨_,rfl⟩
  have s0 : 0 ≤ slot:=by omega
  have s1 : slot < c.all:=by omega
  have w1 : wrap64 (e.cell - c.all) = slot:=by rw [w64 (by omega) (by omega)];exact hslot.symm
  have w2 : IntKind.i64.wrap (2 * c.all) = 2 * c.all:=wi (by omega) (by omega)
  have w3 : IntKind.i64.wrap (2 * c.all + e.who) = c.hazard e.who:=by unfold ConfM.hazard;exact wi (by omega) (by omega)
  have w4 : IntKind.i64.wrap (slot + 1) = slot + 1:=wi (by omega) (by omega)
  have w5 : IntKind.u64.wrap (slot + 1) = u64M (slot + 1):=by rw [IntKind.wrap_u64];rfl
  have w6 : wrap64 (2 * c.all) = 2 * c.all:=w64 (by omega) (by omega)
  have w7 : e.cell - c.all = slot:=hslot.symm
  have w8 : wrap64 slot = slot:=w64 (by omega) (by omega)
  have ow : IntKind.i64.wrap (Int.tdiv slot c.sl) = ownerM c slot:=by
    unfold ownerM
    rw [Int.tdiv_eq_ediv_of_nonneg s0]
    have:=Int.ediv_le_self c.sl s0
    have:=Int.ediv_nonneg s0 (b:=c.sl) (by omega)
    exact wi (by omega) (by omega)
  have z0 : (c.sl == 0) = false:=by simp;omega
  have z1 : ¬ c.sl = 0:=by omega
  have t6 : decide (e.cell < c.all) = false:=by simp;omega
  have t7 : decide (e.cell < 2 * c.all) = true:=by simpa using hkd
  have lb:=lastM_bd l hwf slot
  have U:=fun w'=>Lib.hid (unpack_lay (lastM l slot) lb.1 lb.2 w')
  have LD:=fun w' (hb : Below w.heap.size w w')=>Lib.hid (loaded_calls p l cap e.who slot w' hl hwf (h.grown hb))
  rw [← hslot] at hld
  rw [show rdM l e.who (e.cell - c.all) = none by rw [← hslot];unfold rdM;rw [hld];rfl]
  rw [hld] at LD
  have LD : ∀ w',Below w.heap.size w w' → Hid (Tells 93 #[.slice p l.length cap,.int .i64 e.who,.int .i64 slot] w' (.tuple #[.agg #[.int .i64 0,.int .i64 0,.int .i64 0,.int .i64 0,.int .i64 0],.bool false])):=LD
  unfold valueB
  rw [← hslot]
  generalize u64M (slot + 1) = sx at *
  generalize unpack (lastM l slot) = wd at *
  generalize ownerM c slot = own at *
  rw [if_pos ho]
  have o0 : (e.op == 0) = true:=by simp [ho]
  have o1 : (e.op == 1) = false:=by simp [ho]
  have o2 : (e.op == 2) = false:=by simp [ho]
  clear ho hld
  have t5 : (e.old != lastM l e.cell) = false:=by simp [h4]
  have t1 : decide (e.who < 0) = false:=by simp;omega
  have t2 : decide (e.who ≥ c.th) = false:=by simp;omega
  have t3 : decide (e.cell < 0) = false:=by simp;omega
  have t4 : decide (e.cell ≥ c.cells) = false:=by simp;omega
  clear h hwf he hcl hc hl lb hal hth1 hth2 h0 h1 h2 h3 h4 hkd hkc s0 s1 hsl hcell hslot
  go_enter Tryz.func66,Tryz.ntmps66
  go_wp2_with (first|(have _hp:=gc;((with_reducible refine at_box ?_);refine st_boxf K.out rfl rfl (fun _=>rfl) ?_;intro ge w1 K1;have K2:=Lib.hid K1;clear K1 K;(try clear a0 l0);(try clear a1 l1);(try clear a2 l2);have K:=K2;clear K2;have a0:=K.out.rd 0 rfl;have l0:=K.out.ltp 0 rfl;have a1:=K.out.rd 1 rfl;have l1:=K.out.ltp 1 rfl))|((with_reducible refine at_box ?_);refine st_boxf K.out rfl rfl (fun _=>rfl) ?_;intro gc w1 K1;have K2:=Lib.hid K1;clear K1 K;(try clear a0 l0);(try clear a1 l1);(try clear a2 l2);have K:=K2;clear K2;have a0:=K.out.rd 0 rfl;have l0:=K.out.ltp 0 rfl))
  refine wp_region_noPanic ?_
  refine wp_region_held_drew (S:=(fun w'=>(∀ j,w'.cell? ⟨ge,j,none⟩ = e.v[j]?) ∧ (∀ j,w'.cell? ⟨gc,j,none⟩ = [Value.int .i64 c.th,.int .i64 c.sl,.int .i64 c.src,.int .i64 c.dl][j]?))) (by kernel_rfl) ?_ (fun hHeld=>?_)
  · ((try dsimp only);(refine lawS (E:=w) (M:=[]) ?_;first|exact K.out|exact K.out.drew))
  refine tk 0 (some 21) ?_
  try simp only[Act.put,p0,p1,p2]
  refine tk 1 (some 22) ?_
  try simp only[Act.put,p0,p1,p2]
  refine tk 2 (some 23) ?_
  try simp only[Act.put,p0,p1,p2]
  refine tk 3 (some 24) ?_
  try simp only[Act.put,p0,p1,p2]
  refine tk 4 (some 25) ?_
  try simp only[Act.put,p0,p1,p2]
  refine tk 5 (some 26) ?_
  try simp only[Act.put,p0,p1,p2]
  refine tk 6 (some 27) ?_
  try simp only[Act.put,p0,p1,p2]
  refine tk 7 (some 28) ?_
  try simp only[Act.put,p0,p1,p2]
  refine tk 8 (some 29) ?_
  try simp only[Act.put,p0,p1,p2]
  refine tk 9 (some 30) ?_
  try simp only[Act.put,p0,p1,p2]
  refine tk 10 (some 31) ?_
  try simp only[Act.put,p0,p1,p2]
  refine tk 11 (some 32) ?_
  try simp only[Act.put,p0,p1,p2]
  refine tk 12 (some 33) ?_
  try simp only[Act.put,p0,p1,p2]
  refine tk 13 (some 34) ?_
  try simp only[Act.put,p0,p1,p2]
  refine tk 14 (some 35) ?_
  try simp only[Act.put,p0,p1,p2]
  refine tk 15 (some 36) ?_
  try simp only[Act.put,p0,p1,p2]
  refine tk 16 (some 37) ?_
  try simp only[Act.put,p0,p1,p2]
  refine tk 17 (some 38) ?_
  try simp only[Act.put,p0,p1,p2]
  refine tk 18 (some 39) ?_
  try simp only[Act.put,p0,p1,p2]
  refine wpAnyH_ready (rs:=[19]) (by kernel_rfl) (by simp) ?_
  refine AllReadyH.cons (o:=_) rfl (fun kC hkC=>?_) AllReadyH.nil
  go_simp
  (first|((first|(go_at_call 18;(with_reducible refine ((CN _).out).mono ?_))|(go_at_call 90;(with_reducible refine ((LA _ _ K.out.below).out).mono ?_))|(go_at_call 90;(with_reducible refine ((LA _ _ K.out.drew.below).out).mono ?_)));rintro e w1 ⟨rfl,hb⟩;have K1:=sat.grown (show sat _ _ _ from by first|exact K.out|exact K.out.drew) hb;clear hb;have K2:=Lib.hid K1;clear K1 K;have K:=K2;clear K2))
  refine shown hkC _ _ (by (try dsimp only);(refine lawS (E:=w) (M:=[]) ?_;first|exact K.out|exact K.out.drew)) ?_;clear hkC kC hHeld;intro hHeld
  try simp only[Act.put,p0,p1,p2]
  refine tk 20 (some 41) ?_
  try simp only[Act.put,p0,p1,p2]
  refine tk 21 (some 42) ?_
  try simp only[Act.put,p0,p1,p2]
  refine tk 22 (some 43) ?_
  try simp only[Act.put,p0,p1,p2]
  refine tk 23 (some 44) ?_
  try simp only[Act.put,p0,p1,p2]
  refine tk 24 (some 45) ?_
  try simp only[Act.put,p0,p1,p2]
  refine tk 25 (some 46) ?_
  try simp only[Act.put,p0,p1,p2]
  refine tk 26 (some 47) ?_
  try simp only[Act.put,p0,p1,p2]
  refine tk 27 (some 48) ?_
  try simp only[Act.put,p0,p1,p2]
  refine wpAnyH_ready (rs:=[28]) (by kernel_rfl) (by simp) ?_
  refine AllReadyH.cons (o:=_) rfl (fun kC hkC=>?_) AllReadyH.nil
  go_simp
  (first|((first|(go_at_call 18;(with_reducible refine ((CN _).out).mono ?_))|(go_at_call 90;(with_reducible refine ((LA _ _ K.out.below).out).mono ?_))|(go_at_call 90;(with_reducible refine ((LA _ _ K.out.drew.below).out).mono ?_)));rintro e w1 ⟨rfl,hb⟩;have K1:=sat.grown (show sat _ _ _ from by first|exact K.out|exact K.out.drew) hb;clear hb;have K2:=Lib.hid K1;clear K1 K;have K:=K2;clear K2))
  refine shown hkC _ _ (by (try dsimp only);(refine lawS (E:=w) (M:=[]) ?_;first|exact K.out|exact K.out.drew)) ?_;clear hkC kC hHeld;intro hHeld
  try simp only[Act.put,p0,p1,p2]
  refine tk 29 (some 50) ?_
  try simp only[Act.put,p0,p1,p2]
  refine tk 30 (some 51) ?_
  try simp only[Act.put,p0,p1,p2]
  have K1:=K.out;have K2:=Lib.hid K1;clear K1 K;(try clear a0 l0);(try clear f0);(try clear a1 l1);(try clear f1);(try clear a2 l2);(try clear f2);(try clear a3 l3);(try clear f3);(try clear a4 l4);(try clear f4);(try clear a5 l5);(try clear f5);have K:=K2;clear K2;(try have a0:=K.out.rd 0 rfl);(try have l0:=K.out.ltp 0 rfl);(try have f0:=K.out.fr 0 rfl);(try have a1:=K.out.rd 1 rfl);(try have l1:=K.out.ltp 1 rfl);(try have f1:=K.out.fr 1 rfl);(try have a2:=K.out.rd 2 rfl);(try have l2:=K.out.ltp 2 rfl);(try have f2:=K.out.fr 2 rfl);(try have a3:=K.out.rd 3 rfl);(try have l3:=K.out.ltp 3 rfl);(try have f3:=K.out.fr 3 rfl)
  refine wpAnyH_done (by kernel_rfl) (NoPanic.normal ?_) _
  (have K1 : sat w _ _:=(by first|exact K.out|exact K.out.drew);clear K;(try clear a0 l0);(try clear a1 l1);have K:=Lib.hid K1;clear K1)
  have a0:=K.out.rd 0 rfl
  have l0:=K.out.ltp 0 rfl
  have a1:=K.out.rd 1 rfl
  have l1:=K.out.ltp 1 rfl
  go_wp2_with (first|((first|(go_at_call 31;(with_reducible refine ((AL _).out).mono ?_))|(go_at_call 90;(with_reducible refine ((LA _ _ (RowKit.Hid.out K).below).out).mono ?_))|(go_at_call 91;(with_reducible refine ((U _).out).mono ?_)));rintro e w1 ⟨rfl,hb⟩;have K1:=sat.grown (by repeat (with_reducible first|exact K.out|apply sat.alloc_any|apply sat.drew|apply sat.drewN)) hb;clear hb;have K2:=Lib.hid K1;clear K1 K;(try clear a0 l0);(try clear a1 l1);(try clear a2 l2);have K:=K2;clear K2;have a0:=K.out.rd 0 rfl;have l0:=K.out.ltp 0 rfl;have a1:=K.out.rd 1 rfl;have l1:=K.out.ltp 1 rfl)|(go_at_call 93;(with_reducible refine ((LD _ (RowKit.Hid.out K).below).out).mono ?_);rintro e w1 ⟨rfl,hb⟩;have K1:=sat.grown (by repeat (with_reducible first|exact K.out|apply sat.alloc_any|apply sat.drew|apply sat.drewN)) hb;clear hb;have K2:=Lib.hid K1;clear K1 K;(try clear a0 l0);(try clear a1 l1);(try clear a2 l2);have K:=K2;clear K2;have a0:=K.out.rd 0 rfl;have l0:=K.out.ltp 0 rfl;have a1:=K.out.rd 1 rfl;have l1:=K.out.ltp 1 rfl;have a2:=K.out.rd 2 rfl;have l2:=K.out.ltp 2 rfl)|(have _hp:=g17;((with_reducible refine at_alloc ?_);refine st_allocf K.out (fun _=>rfl) ?_;intro g18 w1 K1;have K2:=Lib.hid K1;clear K1 K;(try clear a0 l0);(try clear a1 l1);(try clear a2 l2);have K:=K2;clear K2;have a0:=K.out.rd 0 rfl;have l0:=K.out.ltp 0 rfl;have a1:=K.out.rd 1 rfl;have l1:=K.out.ltp 1 rfl;have a2:=K.out.rd 2 rfl;have l2:=K.out.ltp 2 rfl;have a3:=K.out.rd 3 rfl;have l3:=K.out.ltp 3 rfl))|((with_reducible refine at_alloc ?_);refine st_allocf K.out (fun _=>rfl) ?_;intro g17 w1 K1;have K2:=Lib.hid K1;clear K1 K;(try clear a0 l0);(try clear a1 l1);(try clear a2 l2);have K:=K2;clear K2;have a0:=K.out.rd 0 rfl;have l0:=K.out.ltp 0 rfl;have a1:=K.out.rd 1 rfl;have l1:=K.out.ltp 1 rfl;have a2:=K.out.rd 2 rfl;have l2:=K.out.ltp 2 rfl)|(have _hp:=g18;((with_reducible refine at_store ?_);refine st_store 0 K.out rfl rfl rfl rfl ?_ ?_ ?_ ?_;(· kernel_rfl);(· simp);(· simp [Value.oneCell']);intro w1 K1;simp only [List.set,putL] at K1;have K2:=Lib.hid K1;clear K1 K;(try clear a0 l0);(try clear a1 l1);(try clear a2 l2);have K:=K2;clear K2;have a0:=K.out.rd 0 rfl;have l0:=K.out.ltp 0 rfl;have a1:=K.out.rd 1 rfl;have l1:=K.out.ltp 1 rfl;have a2:=K.out.rd 2 rfl;have l2:=K.out.ltp 2 rfl;have a3:=K.out.rd 3 rfl;have l3:=K.out.ltp 3 rfl))|((fail_if_success (have _hq:=g18));((with_reducible refine at_store ?_);refine st_store 0 K.out rfl rfl rfl rfl ?_ ?_ ?_ ?_;(· kernel_rfl);(· simp);(· simp [Value.oneCell']);intro w1 K1;simp only [List.set,putL] at K1;have K2:=Lib.hid K1;clear K1 K;(try clear a0 l0);(try clear a1 l1);(try clear a2 l2);have K:=K2;clear K2;have a0:=K.out.rd 0 rfl;have l0:=K.out.ltp 0 rfl;have a1:=K.out.rd 1 rfl;have l1:=K.out.ltp 1 rfl;have a2:=K.out.rd 2 rfl;have l2:=K.out.ltp 2 rfl)))
  refine wp_region_noPanic ?_
  refine wp_region_held_drew (S:=(fun w'=>(∀ j,w'.cell? ⟨g18,j,none⟩ = [Value.int .i64 0,.int .i64 0,.int .i64 0,.int .i64 0,.int .i64 0][j]?) ∧ (∀ j,w'.cell? ⟨g17,j,none⟩ = (wordL wd)[j]?) ∧ (∀ j,w'.cell? ⟨ge,j,none⟩ = e.v[j]?) ∧ (∀ j,w'.cell? ⟨gc,j,none⟩ = [Value.int .i64 c.th,.int .i64 c.sl,.int .i64 c.src,.int .i64 c.dl][j]?))) (by kernel_rfl) ?_ (fun hHeld=>?_)
  · ((try dsimp only);(refine lawT (E:=w) (x:=wd) (M:=[]) ?_;first|exact K.out|exact K.out.drew))
  refine tk 0 (some 154) ?_
  try simp only[Act.put,p0,p1,p2]
  refine tk 1 (some 155) ?_
  try simp only[Act.put,p0,p1,p2]
  refine tk 2 (some 156) ?_
  try simp only[Act.put,p0,p1,p2]
  refine tk 3 (some 157) ?_
  try simp only[Act.put,p0,p1,p2]
  refine tk 4 (some 158) ?_
  try simp only[Act.put,p0,p1,p2]
  refine sk 5 (some 159) ?_
  try simp only[Act.put,p0,p1,p2]
  refine sk 6 (some 160) ?_
  try simp only[Act.put,p0,p1,p2]
  refine sk 7 (some 161) ?_
  try simp only[Act.put,p0,p1,p2]
  refine sk 8 (some 162) ?_
  try simp only[Act.put,p0,p1,p2]
  refine sk 9 (some 163) ?_
  try simp only[Act.put,p0,p1,p2]
  refine tk 10 (some 164) ?_
  try simp only[Act.put,p0,p1,p2]
  refine tk 11 (some 165) ?_
  try simp only[Act.put,p0,p1,p2]
  refine sk 12 (some 166) ?_
  try simp only[Act.put,p0,p1,p2]
  refine sk 13 (some 167) ?_
  try simp only[Act.put,p0,p1,p2]
  refine sk 14 (some 168) ?_
  try simp only[Act.put,p0,p1,p2]
  refine sk 15 (some 169) ?_
  try simp only[Act.put,p0,p1,p2]
  refine sk 16 (some 170) ?_
  try simp only[Act.put,p0,p1,p2]
  refine sk 17 (some 171) ?_
  try simp only[Act.put,p0,p1,p2]
  refine sk 18 (some 172) ?_
  try simp only[Act.put,p0,p1,p2]
  refine sk 19 (some 173) ?_
  try simp only[Act.put,p0,p1,p2]
  refine sk 20 (some 174) ?_
  try simp only[Act.put,p0,p1,p2]
  refine sk 21 (some 175) ?_
  try simp only[Act.put,p0,p1,p2]
  refine sk 22 (some 176) ?_
  try simp only[Act.put,p0,p1,p2]
  refine tk 23 (some 177) ?_
  try simp only[Act.put,p0,p1,p2]
  refine tk 24 (some 178) ?_
  try simp only[Act.put,p0,p1,p2]
  refine tk 25 (some 179) ?_
  try simp only[Act.put,p0,p1,p2]
  refine tk 26 (some 180) ?_
  try simp only[Act.put,p0,p1,p2]
  refine sk 27 (some 181) ?_
  try simp only[Act.put,p0,p1,p2]
  refine sk 28 (some 182) ?_
  try simp only[Act.put,p0,p1,p2]
  refine sk 29 (some 183) ?_
  try simp only[Act.put,p0,p1,p2]
  refine sk 30 (some 184) ?_
  try simp only[Act.put,p0,p1,p2]
  refine sk 31 (some 185) ?_
  try simp only[Act.put,p0,p1,p2]
  refine sk 32 (some 186) ?_
  try simp only[Act.put,p0,p1,p2]
  refine sk 33 (some 187) ?_
  try simp only[Act.put,p0,p1,p2]
  refine tk 34 (some 188) ?_
  try simp only[Act.put,p0,p1,p2]
  refine tk 35 (some 189) ?_
  try simp only[Act.put,p0,p1,p2]
  refine sk 36 (some 190) ?_
  try simp only[Act.put,p0,p1,p2]
  refine sk 37 (some 191) ?_
  try simp only[Act.put,p0,p1,p2]
  refine sk 38 (some 192) ?_
  try simp only[Act.put,p0,p1,p2]
  refine tk 39 (some 193) ?_
  try simp only[Act.put,p0,p1,p2]
  refine tk 40 (some 194) ?_
  try simp only[Act.put,p0,p1,p2]
  refine tk 41 (some 6) ?_
  try simp only[Act.put,p0,p1,p2]
  have K1:=K.out;have K2:=Lib.hid K1;clear K1 K;(try clear a0 l0);(try clear f0);(try clear a1 l1);(try clear f1);(try clear a2 l2);(try clear f2);(try clear a3 l3);(try clear f3);(try clear a4 l4);(try clear f4);(try clear a5 l5);(try clear f5);have K:=K2;clear K2;(try have a0:=K.out.rd 0 rfl);(try have l0:=K.out.ltp 0 rfl);(try have f0:=K.out.fr 0 rfl);(try have a1:=K.out.rd 1 rfl);(try have l1:=K.out.ltp 1 rfl);(try have f1:=K.out.fr 1 rfl);(try have a2:=K.out.rd 2 rfl);(try have l2:=K.out.ltp 2 rfl);(try have f2:=K.out.fr 2 rfl);(try have a3:=K.out.rd 3 rfl);(try have l3:=K.out.ltp 3 rfl);(try have f3:=K.out.fr 3 rfl)
  refine wpAnyH_done (by kernel_rfl) (NoPanic.normal ?_) _
  go_wp2
  go_ret
  exact ⟨ret_b (by simp_all),(show sat w _ _ from by first|exact K.out|exact K.out.drew).below⟩
theorem lmay_value0g (c : ConfM) (hc : c.ok) (p : Option Addr) (l : List Ev) (cap : Nat) (e : Ev) (w : World) (hl : l.length ≤ 1000000) (hwf : ∀ e ∈ l,Ev.wf e) (he : Ev.wf e) (h : OldE w p l) (h0 : 0 ≤ e.who) (h1 : e.who < c.th) (h2 : 0 ≤ e.cell) (h3 : e.cell < c.cells) (h4 : e.old = lastM l e.cell) (hkc : c.all ≤ e.cell) (hkd : e.cell < 2 * c.all) (ho : e.op = 0) (x : Int) (hld : loadedM l e.who (e.cell - c.all) = some x) (hg : (unpack x).gen ≠ (unpack (lastM l (e.cell - c.all))).gen) :
    Tells 66 #[.agg #[.int .i64 c.th,.int .i64 c.sl,.int .i64 c.src,.int .i64 c.dl],.slice p l.length cap,.agg e.v.toArray] w (.bool (valueB c (lastM l) (rdM l e.who (e.cell - c.all)) e (e.cell - c.all))):=by
  have K:=Lib.hid (sat.start w)
  have CN:=fun w'=>Lib.hid (cellsn_calls c w' hc)
  have AL:=fun w'=>Lib.hid (all_calls c w' hc)
  have HB:=Lib.hid h
  have LA:=fun w' x (hb : Below w.heap.size w w')=>Lib.hid (last_calls p l cap x w' hl (h.grown hb))
  have hal:=hc.all_bd
  have hth1:=hc.th1
  have hth2:=hc.th2
  have hsl:=hc.sl1
  have hcl : c.cells = 2 * c.all + 2 * c.th:=rfl
  have hcell : e.cell ≤ 8400:=by omega
  obtain ⟨slot,hslot⟩ : ∃ s,s = e.cell - c.all:=⟨_,rfl⟩
  have s0 : 0 ≤ slot:=by omega
  have s1 : slot < c.all:=by omega
  have w1 : wrap64 (e.cell - c.all) = slot:=by rw [w64 (by omega) (by omega)];exact hslot.symm
  have w2 : IntKind.i64.wrap (2 * c.all) = 2 * c.all:=wi (by omega) (by omega)
  have w3 : IntKind.i64.wrap (2 * c.all + e.who) = c.hazard e.who:=by unfold ConfM.hazard;exact wi (by omega) (by omega)
  have w4 : IntKind.i64.wrap (slot + 1) = slot + 1:=wi (by omega) (by omega)
  have w5 : IntKind.u64.wrap (slot + 1) = u64M (slot + 1):=by rw [IntKind.wrap_u64];rfl
  have w6 : wrap64 (2 * c.all) = 2 * c.all:=w64 (by omega) (by omega)
  have w7 : e.cell - c.all = slot:=hslot.symm
  have w8 : wrap64 slot = slot:=w64 (by omega) (by omega)
  have ow : IntKind.i64.wrap (Int.tdiv slot c.sl) = ownerM c slot:=by
    unfold ownerM
    rw [Int.tdiv_eq_ediv_of_nonneg s0]
    have:=Int.ediv_le_self c.sl s0
    have:=Int.ediv_nonneg s0 (b:=c.sl) (by omega)
    exact wi (by omega) (by omega)
  have z0 : (c.sl == 0) = false:=by simp;omega
  have z1 : ¬ c.sl = 0:=by omega
  have t6 : decide (e.cell < c.all) = false:=by simp;omega
  have t7 : decide (e.cell < 2 * c.all) = true:=by simpa using hkd
  have lb:=lastM_bd l hwf slot
  have U:=fun w'=>Lib.hid (unpack_lay (lastM l slot) lb.1 lb.2 w')
  have LD:=fun w' (hb : Below w.heap.size w w')=>Lib.hid (loaded_calls p l cap e.who slot w' hl hwf (h.grown hb))
  rw [← hslot] at hld hg
  rw [show rdM l e.who (e.cell - c.all) = some (unpack x).gen by rw [← hslot];unfold rdM;rw [hld];rfl]
  rw [hld] at LD
  have LD : ∀ w',Below w.heap.size w w' → Hid (Tells 93 #[.slice p l.length cap,.int .i64 e.who,.int .i64 slot] w' (.tuple #[wordV (unpack x),.bool true])):=LD
  unfold valueB
  rw [← hslot]
  generalize u64M (slot + 1) = sx at *
  generalize unpack (lastM l slot) = wd at *
  generalize ownerM c slot = own at *
  rw [if_pos ho]
  (try dsimp only)
  have o0 : (e.op == 0) = true:=by simp [ho]
  have o1 : (e.op == 1) = false:=by simp [ho]
  have o2 : (e.op == 2) = false:=by simp [ho]
  have q1 : ((unpack x).gen == wd.gen) = false:=by simpa using hg
  clear ho hld hg
  have t5 : (e.old != lastM l e.cell) = false:=by simp [h4]
  have t1 : decide (e.who < 0) = false:=by simp;omega
  have t2 : decide (e.who ≥ c.th) = false:=by simp;omega
  have t3 : decide (e.cell < 0) = false:=by simp;omega
  have t4 : decide (e.cell ≥ c.cells) = false:=by simp;omega
  clear h hwf he hcl hc hl lb hal hth1 hth2 h0 h1 h2 h3 h4 hkd hkc s0 s1 hsl hcell hslot
  go_enter Tryz.func66,Tryz.ntmps66
  go_wp2_with (first|(have _hp:=gc;((with_reducible refine at_box ?_);refine st_boxf K.out rfl rfl (fun _=>rfl) ?_;intro ge w1 K1;have K2:=Lib.hid K1;clear K1 K;(try clear a0 l0);(try clear a1 l1);(try clear a2 l2);have K:=K2;clear K2;have a0:=K.out.rd 0 rfl;have l0:=K.out.ltp 0 rfl;have a1:=K.out.rd 1 rfl;have l1:=K.out.ltp 1 rfl))|((with_reducible refine at_box ?_);refine st_boxf K.out rfl rfl (fun _=>rfl) ?_;intro gc w1 K1;have K2:=Lib.hid K1;clear K1 K;(try clear a0 l0);(try clear a1 l1);(try clear a2 l2);have K:=K2;clear K2;have a0:=K.out.rd 0 rfl;have l0:=K.out.ltp 0 rfl))
  refine wp_region_noPanic ?_
  refine wp_region_held_drew (S:=(fun w'=>(∀ j,w'.cell? ⟨ge,j,none⟩ = e.v[j]?) ∧ (∀ j,w'.cell? ⟨gc,j,none⟩ = [Value.int .i64 c.th,.int .i64 c.sl,.int .i64 c.src,.int .i64 c.dl][j]?))) (by kernel_rfl) ?_ (fun hHeld=>?_)
  · ((try dsimp only);(refine lawS (E:=w) (M:=[]) ?_;first|exact K.out|exact K.out.drew))
  refine tk 0 (some 21) ?_
  try simp only[Act.put,p0,p1,p2]
  refine tk 1 (some 22) ?_
  try simp only[Act.put,p0,p1,p2]
  refine tk 2 (some 23) ?_
  try simp only[Act.put,p0,p1,p2]
  refine tk 3 (some 24) ?_
  try simp only[Act.put,p0,p1,p2]
  refine tk 4 (some 25) ?_
  try simp only[Act.put,p0,p1,p2]
  refine tk 5 (some 26) ?_
  try simp only[Act.put,p0,p1,p2]
  refine tk 6 (some 27) ?_
  try simp only[Act.put,p0,p1,p2]
  refine tk 7 (some 28) ?_
  try simp only[Act.put,p0,p1,p2]
  refine tk 8 (some 29) ?_
  try simp only[Act.put,p0,p1,p2]
  refine tk 9 (some 30) ?_
  try simp only[Act.put,p0,p1,p2]
  refine tk 10 (some 31) ?_
  try simp only[Act.put,p0,p1,p2]
  refine tk 11 (some 32) ?_
  try simp only[Act.put,p0,p1,p2]
  refine tk 12 (some 33) ?_
  try simp only[Act.put,p0,p1,p2]
  refine tk 13 (some 34) ?_
  try simp only[Act.put,p0,p1,p2]
  refine tk 14 (some 35) ?_
  try simp only[Act.put,p0,p1,p2]
  refine tk 15 (some 36) ?_
  try simp only[Act.put,p0,p1,p2]
  refine tk 16 (some 37) ?_
  try simp only[Act.put,p0,p1,p2]
  refine tk 17 (some 38) ?_
  try simp only[Act.put,p0,p1,p2]
  refine tk 18 (some 39) ?_
  try simp only[Act.put,p0,p1,p2]
  refine wpAnyH_ready (rs:=[19]) (by kernel_rfl) (by simp) ?_
  refine AllReadyH.cons (o:=_) rfl (fun kC hkC=>?_) AllReadyH.nil
  go_simp
  (first|((first|(go_at_call 18;(with_reducible refine ((CN _).out).mono ?_))|(go_at_call 90;(with_reducible refine ((LA _ _ K.out.below).out).mono ?_))|(go_at_call 90;(with_reducible refine ((LA _ _ K.out.drew.below).out).mono ?_)));rintro e w1 ⟨rfl,hb⟩;have K1:=sat.grown (show sat _ _ _ from by first|exact K.out|exact K.out.drew) hb;clear hb;have K2:=Lib.hid K1;clear K1 K;have K:=K2;clear K2))
  refine shown hkC _ _ (by (try dsimp only);(refine lawS (E:=w) (M:=[]) ?_;first|exact K.out|exact K.out.drew)) ?_;clear hkC kC hHeld;intro hHeld
  try simp only[Act.put,p0,p1,p2]
  refine tk 20 (some 41) ?_
  try simp only[Act.put,p0,p1,p2]
  refine tk 21 (some 42) ?_
  try simp only[Act.put,p0,p1,p2]
  refine tk 22 (some 43) ?_
  try simp only[Act.put,p0,p1,p2]
  refine tk 23 (some 44) ?_
  try simp only[Act.put,p0,p1,p2]
  refine tk 24 (some 45) ?_
  try simp only[Act.put,p0,p1,p2]
  refine tk 25 (some 46) ?_
  try simp only[Act.put,p0,p1,p2]
  refine tk 26 (some 47) ?_
  try simp only[Act.put,p0,p1,p2]
  refine tk 27 (some 48) ?_
  try simp only[Act.put,p0,p1,p2]
  refine wpAnyH_ready (rs:=[28]) (by kernel_rfl) (by simp) ?_
  refine AllReadyH.cons (o:=_) rfl (fun kC hkC=>?_) AllReadyH.nil
  go_simp
  (first|((first|(go_at_call 18;(with_reducible refine ((CN _).out).mono ?_))|(go_at_call 90;(with_reducible refine ((LA _ _ K.out.below).out).mono ?_))|(go_at_call 90;(with_reducible refine ((LA _ _ K.out.drew.below).out).mono ?_)));rintro e w1 ⟨rfl,hb⟩;have K1:=sat.grown (show sat _ _ _ from by first|exact K.out|exact K.out.drew) hb;clear hb;have K2:=Lib.hid K1;clear K1 K;have K:=K2;clear K2))
  refine shown hkC _ _ (by (try dsimp only);(refine lawS (E:=w) (M:=[]) ?_;first|exact K.out|exact K.out.drew)) ?_;clear hkC kC hHeld;intro hHeld
  try simp only[Act.put,p0,p1,p2]
  refine tk 29 (some 50) ?_
  try simp only[Act.put,p0,p1,p2]
  refine tk 30 (some 51) ?_
  try simp only[Act.put,p0,p1,p2]
  have K1:=K.out;have K2:=Lib.hid K1;clear K1 K;(try clear a0 l0);(try clear f0);(try clear a1 l1);(try clear f1);(try clear a2 l2);(try clear f2);(try clear a3 l3);(try clear f3);(try clear a4 l4);(try clear f4);(try clear a5 l5);(try clear f5);have K:=K2;clear K2;(try have a0:=K.out.rd 0 rfl);(try have l0:=K.out.ltp 0 rfl);(try have f0:=K.out.fr 0 rfl);(try have a1:=K.out.rd 1 rfl);(try have l1:=K.out.ltp 1 rfl);(try have f1:=K.out.fr 1 rfl);(try have a2:=K.out.rd 2 rfl);(try have l2:=K.out.ltp 2 rfl);(try have f2:=K.out.fr 2 rfl);(try have a3:=K.out.rd 3 rfl);(try have l3:=K.out.ltp 3 rfl);(try have f3:=K.out.fr 3 rfl)
  refine wpAnyH_done (by kernel_rfl) (NoPanic.normal ?_) _
  (have K1 : sat w _ _:=(by first|exact K.out|exact K.out.drew);clear K;(try clear a0 l0);(try clear a1 l1);have K:=Lib.hid K1;clear K1)
  have a0:=K.out.rd 0 rfl
  have l0:=K.out.ltp 0 rfl
  have a1:=K.out.rd 1 rfl
  have l1:=K.out.ltp 1 rfl
  go_wp2_with (first|((first|(go_at_call 31;(with_reducible refine ((AL _).out).mono ?_))|(go_at_call 90;(with_reducible refine ((LA _ _ (RowKit.Hid.out K).below).out).mono ?_))|(go_at_call 91;(with_reducible refine ((U _).out).mono ?_)));rintro e w1 ⟨rfl,hb⟩;have K1:=sat.grown (by repeat (with_reducible first|exact K.out|apply sat.alloc_any|apply sat.drew|apply sat.drewN)) hb;clear hb;have K2:=Lib.hid K1;clear K1 K;(try clear a0 l0);(try clear a1 l1);(try clear a2 l2);have K:=K2;clear K2;have a0:=K.out.rd 0 rfl;have l0:=K.out.ltp 0 rfl;have a1:=K.out.rd 1 rfl;have l1:=K.out.ltp 1 rfl)|(go_at_call 93;(with_reducible refine ((LD _ (RowKit.Hid.out K).below).out).mono ?_);rintro e w1 ⟨rfl,hb⟩;have K1:=sat.grown (by repeat (with_reducible first|exact K.out|apply sat.alloc_any|apply sat.drew|apply sat.drewN)) hb;clear hb;have K2:=Lib.hid K1;clear K1 K;(try clear a0 l0);(try clear a1 l1);(try clear a2 l2);have K:=K2;clear K2;have a0:=K.out.rd 0 rfl;have l0:=K.out.ltp 0 rfl;have a1:=K.out.rd 1 rfl;have l1:=K.out.ltp 1 rfl;have a2:=K.out.rd 2 rfl;have l2:=K.out.ltp 2 rfl)|(have _hp:=g17;((with_reducible refine at_alloc ?_);refine st_allocf K.out (fun _=>rfl) ?_;intro g18 w1 K1;have K2:=Lib.hid K1;clear K1 K;(try clear a0 l0);(try clear a1 l1);(try clear a2 l2);have K:=K2;clear K2;have a0:=K.out.rd 0 rfl;have l0:=K.out.ltp 0 rfl;have a1:=K.out.rd 1 rfl;have l1:=K.out.ltp 1 rfl;have a2:=K.out.rd 2 rfl;have l2:=K.out.ltp 2 rfl;have a3:=K.out.rd 3 rfl;have l3:=K.out.ltp 3 rfl))|((with_reducible refine at_alloc ?_);refine st_allocf K.out (fun _=>rfl) ?_;intro g17 w1 K1;have K2:=Lib.hid K1;clear K1 K;(try clear a0 l0);(try clear a1 l1);(try clear a2 l2);have K:=K2;clear K2;have a0:=K.out.rd 0 rfl;have l0:=K.out.ltp 0 rfl;have a1:=K.out.rd 1 rfl;have l1:=K.out.ltp 1 rfl;have a2:=K.out.rd 2 rfl;have l2:=K.out.ltp 2 rfl)|(have _hp:=g18;((with_reducible refine at_store ?_);refine st_store 0 K.out rfl rfl rfl rfl ?_ ?_ ?_ ?_;(· kernel_rfl);(· simp);(· simp [Value.oneCell']);intro w1 K1;simp only [List.set,putL] at K1;have K2:=Lib.hid K1;clear K1 K;(try clear a0 l0);(try clear a1 l1);(try clear a2 l2);have K:=K2;clear K2;have a0:=K.out.rd 0 rfl;have l0:=K.out.ltp 0 rfl;have a1:=K.out.rd 1 rfl;have l1:=K.out.ltp 1 rfl;have a2:=K.out.rd 2 rfl;have l2:=K.out.ltp 2 rfl;have a3:=K.out.rd 3 rfl;have l3:=K.out.ltp 3 rfl))|((fail_if_success (have _hq:=g18));((with_reducible refine at_store ?_);refine st_store 0 K.out rfl rfl rfl rfl ?_ ?_ ?_ ?_;(· kernel_rfl);(· simp);(· simp [Value.oneCell']);intro w1 K1;simp only [List.set,putL] at K1;have K2:=Lib.hid K1;clear K1 K;(try clear a0 l0);(try clear a1 l1);(try clear a2 l2);have K:=K2;clear K2;have a0:=K.out.rd 0 rfl;have l0:=K.out.ltp 0 rfl;have a1:=K.out.rd 1 rfl;have l1:=K.out.ltp 1 rfl;have a2:=K.out.rd 2 rfl;have l2:=K.out.ltp 2 rfl)))
  refine wp_region_noPanic ?_
  refine wp_region_held_drew (S:=(fun w'=>(∀ j,w'.cell? ⟨g18,j,none⟩ = [Value.int .i64 (unpack x).state,.int .i64 (unpack x).fin,.int .i64 (unpack x).gen,.int .i64 (unpack x).stamp.lo,.int .i64 (unpack x).stamp.hi][j]?) ∧ (∀ j,w'.cell? ⟨g17,j,none⟩ = (wordL wd)[j]?) ∧ (∀ j,w'.cell? ⟨ge,j,none⟩ = e.v[j]?) ∧ (∀ j,w'.cell? ⟨gc,j,none⟩ = [Value.int .i64 c.th,.int .i64 c.sl,.int .i64 c.src,.int .i64 c.dl][j]?))) (by kernel_rfl) ?_ (fun hHeld=>?_)
  · ((try dsimp only);(refine lawT (E:=w) (x:=wd) (M:=[]) ?_;first|exact K.out|exact K.out.drew))
  refine tk 0 (some 154) ?_
  try simp only[Act.put,p0,p1,p2]
  refine tk 1 (some 155) ?_
  try simp only[Act.put,p0,p1,p2]
  refine tk 2 (some 156) ?_
  try simp only[Act.put,p0,p1,p2]
  refine tk 3 (some 157) ?_
  try simp only[Act.put,p0,p1,p2]
  refine tk 4 (some 158) ?_
  try simp only[Act.put,p0,p1,p2]
  refine tk 5 (some 159) ?_
  try simp only[Act.put,p0,p1,p2]
  refine tk 6 (some 160) ?_
  try simp only[Act.put,p0,p1,p2]
  refine tk 7 (some 161) ?_
  try simp only[Act.put,p0,p1,p2]
  refine tk 8 (some 162) ?_
  try simp only[Act.put,p0,p1,p2]
  refine tk 9 (some 163) ?_
  try simp only[Act.put,p0,p1,p2]
  refine tk 10 (some 164) ?_
  try simp only[Act.put,p0,p1,p2]
  refine tk 11 (some 165) ?_
  try simp only[Act.put,p0,p1,p2]
  refine sk 12 (some 166) ?_
  try simp only[Act.put,p0,p1,p2]
  refine sk 13 (some 167) ?_
  try simp only[Act.put,p0,p1,p2]
  refine sk 14 (some 168) ?_
  try simp only[Act.put,p0,p1,p2]
  refine sk 15 (some 169) ?_
  try simp only[Act.put,p0,p1,p2]
  refine sk 16 (some 170) ?_
  try simp only[Act.put,p0,p1,p2]
  refine sk 17 (some 171) ?_
  try simp only[Act.put,p0,p1,p2]
  refine sk 18 (some 172) ?_
  try simp only[Act.put,p0,p1,p2]
  refine sk 19 (some 173) ?_
  try simp only[Act.put,p0,p1,p2]
  refine sk 20 (some 174) ?_
  try simp only[Act.put,p0,p1,p2]
  refine sk 21 (some 175) ?_
  try simp only[Act.put,p0,p1,p2]
  refine sk 22 (some 176) ?_
  try simp only[Act.put,p0,p1,p2]
  refine tk 23 (some 177) ?_
  try simp only[Act.put,p0,p1,p2]
  refine tk 24 (some 178) ?_
  try simp only[Act.put,p0,p1,p2]
  refine tk 25 (some 179) ?_
  try simp only[Act.put,p0,p1,p2]
  refine tk 26 (some 180) ?_
  try simp only[Act.put,p0,p1,p2]
  refine sk 27 (some 181) ?_
  try simp only[Act.put,p0,p1,p2]
  refine sk 28 (some 182) ?_
  try simp only[Act.put,p0,p1,p2]
  refine sk 29 (some 183) ?_
  try simp only[Act.put,p0,p1,p2]
  refine sk 30 (some 184) ?_
  try simp only[Act.put,p0,p1,p2]
  refine sk 31 (some 185) ?_
  try simp only[Act.put,p0,p1,p2]
  refine sk 32 (some 186) ?_
  try simp only[Act.put,p0,p1,p2]
  refine sk 33 (some 187) ?_
  try simp only[Act.put,p0,p1,p2]
  refine tk 34 (some 188) ?_
  try simp only[Act.put,p0,p1,p2]
  refine tk 35 (some 189) ?_
  try simp only[Act.put,p0,p1,p2]
  refine sk 36 (some 190) ?_
  try simp only[Act.put,p0,p1,p2]
  refine sk 37 (some 191) ?_
  try simp only[Act.put,p0,p1,p2]
  refine sk 38 (some 192) ?_
  try simp only[Act.put,p0,p1,p2]
  refine tk 39 (some 193) ?_
  try simp only[Act.put,p0,p1,p2]
  refine tk 40 (some 194) ?_
  try simp only[Act.put,p0,p1,p2]
  refine tk 41 (some 6) ?_
  try simp only[Act.put,p0,p1,p2]
  have K1:=K.out;have K2:=Lib.hid K1;clear K1 K;(try clear a0 l0);(try clear f0);(try clear a1 l1);(try clear f1);(try clear a2 l2);(try clear f2);(try clear a3 l3);(try clear f3);(try clear a4 l4);(try clear f4);(try clear a5 l5);(try clear f5);have K:=K2;clear K2;(try have a0:=K.out.rd 0 rfl);(try have l0:=K.out.ltp 0 rfl);(try have f0:=K.out.fr 0 rfl);(try have a1:=K.out.rd 1 rfl);(try have l1:=K.out.ltp 1 rfl);(try have f1:=K.out.fr 1 rfl);(try have a2:=K.out.rd 2 rfl);(try have l2:=K.out.ltp 2 rfl);(try have f2:=K.out.fr 2 rfl);(try have a3:=K.out.rd 3 rfl);(try have l3:=K.out.ltp 3 rfl);(try have f3:=K.out.fr 3 rfl)
  refine wpAnyH_done (by kernel_rfl) (NoPanic.normal ?_) _
  go_wp2
  go_ret
  exact ⟨ret_b (by simp_all),(show sat w _ _ from by first|exact K.out|exact K.out.drew).below⟩
theorem lmay_value0t (c : ConfM) (hc : c.ok) (p : Option Addr) (l : List Ev) (cap : Nat) (e : Ev) (w : World) (hl : l.length ≤ 1000000) (hwf : ∀ e ∈ l,Ev.wf e) (he : Ev.wf e) (h : OldE w p l) (h0 : 0 ≤ e.who) (h1 : e.who < c.th) (h2 : 0 ≤ e.cell) (h3 : e.cell < c.cells) (h4 : e.old = lastM l e.cell) (hkc : c.all ≤ e.cell) (hkd : e.cell < 2 * c.all) (ho : e.op = 0) (x : Int) (hld : loadedM l e.who (e.cell - c.all) = some x) (hg : (unpack x).gen = (unpack (lastM l (e.cell - c.all))).gen) (hs : lastM l (c.hazard e.who) = u64M (e.cell - c.all + 1)) :
    Tells 66 #[.agg #[.int .i64 c.th,.int .i64 c.sl,.int .i64 c.src,.int .i64 c.dl],.slice p l.length cap,.agg e.v.toArray] w (.bool (valueB c (lastM l) (rdM l e.who (e.cell - c.all)) e (e.cell - c.all))):=by
  have K:=Lib.hid (sat.start w)
  have CN:=fun w'=>Lib.hid (cellsn_calls c w' hc)
  have AL:=fun w'=>Lib.hid (all_calls c w' hc)
  have HB:=Lib.hid h
  have LA:=fun w' x (hb : Below w.heap.size w w')=>Lib.hid (last_calls p l cap x w' hl (h.grown hb))
  have hal:=hc.all_bd
  have hth1:=hc.th1
  have hth2:=hc.th2
  have hsl:=hc.sl1
  have hcl : c.cells = 2 * c.all + 2 * c.th:=rfl
  have hcell : e.cell ≤ 8400:=by omega
  obtain ⟨slot,hslot⟩ : ∃ s,s = e.cell - c.all:=⟨_,rfl⟩
  have s0 : 0 ≤ slot:=by omega
  have s1 : slot < c.all:=by omega
  have w1 : wrap64 (e.cell - c.all) = slot:=by rw [w64 (by omega) (by omega)];exact hslot.symm
  have w2 : IntKind.i64.wrap (2 * c.all) = 2 * c.all:=wi (by omega) (by omega)
  have w3 : IntKind.i64.wrap (2 * c.all + e.who) = c.hazard e.who:=by unfold ConfM.hazard;exact wi (by omega) (by omega)
  have w4 : IntKind.i64.wrap (slot + 1) = slot + 1:=wi (by omega) (by omega)
  have w5 : IntKind.u64.wrap (slot + 1) = u64M (slot + 1):=by rw [IntKind.wrap_u64];rfl
  have w6 : wrap64 (2 * c.all) = 2 * c.all:=w64 (by omega) (by omega)
  have w7 : e.cell - c.all = slot:=hslot.symm
  have w8 : wrap64 slot = slot:=w64 (by omega) (by omega)
  have ow : IntKind.i64.wrap (Int.tdiv slot c.sl) = ownerM c slot:=by
    unfold ownerM
    rw [Int.tdiv_eq_ediv_of_nonneg s0]
    have:=Int.ediv_le_self c.sl s0
    have:=Int.ediv_nonneg s0 (b:=c.sl) (by omega)
    exact wi (by omega) (by omega)
  have z0 : (c.sl == 0) = false:=by simp;omega
  have z1 : ¬ c.sl = 0:=by omega
  have t6 : decide (e.cell < c.all) = false:=by simp;omega
  have t7 : decide (e.cell < 2 * c.all) = true:=by simpa using hkd
  have lb:=lastM_bd l hwf slot
  have U:=fun w'=>Lib.hid (unpack_lay (lastM l slot) lb.1 lb.2 w')
  have LD:=fun w' (hb : Below w.heap.size w w')=>Lib.hid (loaded_calls p l cap e.who slot w' hl hwf (h.grown hb))
  rw [← hslot] at hld hg hs
  rw [show rdM l e.who (e.cell - c.all) = some (unpack x).gen by rw [← hslot];unfold rdM;rw [hld];rfl]
  rw [hld] at LD
  have LD : ∀ w',Below w.heap.size w w' → Hid (Tells 93 #[.slice p l.length cap,.int .i64 e.who,.int .i64 slot] w' (.tuple #[wordV (unpack x),.bool true])):=LD
  unfold valueB
  rw [← hslot]
  generalize u64M (slot + 1) = sx at *
  generalize unpack (lastM l slot) = wd at *
  generalize ownerM c slot = own at *
  rw [if_pos ho]
  (try dsimp only)
  have o0 : (e.op == 0) = true:=by simp [ho]
  have o1 : (e.op == 1) = false:=by simp [ho]
  have o2 : (e.op == 2) = false:=by simp [ho]
  have q1 : ((unpack x).gen == wd.gen) = true:=by simpa using hg
  have q2 : (lastM l (c.hazard e.who) == sx) = true:=by simpa using hs
  clear ho hld hg hs
  have t5 : (e.old != lastM l e.cell) = false:=by simp [h4]
  have t1 : decide (e.who < 0) = false:=by simp;omega
  have t2 : decide (e.who ≥ c.th) = false:=by simp;omega
  have t3 : decide (e.cell < 0) = false:=by simp;omega
  have t4 : decide (e.cell ≥ c.cells) = false:=by simp;omega
  clear h hwf he hcl hc hl lb hal hth1 hth2 h0 h1 h2 h3 h4 hkd hkc s0 s1 hsl hcell hslot
  go_enter Tryz.func66,Tryz.ntmps66
  go_wp2_with (first|(have _hp:=gc;((with_reducible refine at_box ?_);refine st_boxf K.out rfl rfl (fun _=>rfl) ?_;intro ge w1 K1;have K2:=Lib.hid K1;clear K1 K;(try clear a0 l0);(try clear a1 l1);(try clear a2 l2);have K:=K2;clear K2;have a0:=K.out.rd 0 rfl;have l0:=K.out.ltp 0 rfl;have a1:=K.out.rd 1 rfl;have l1:=K.out.ltp 1 rfl))|((with_reducible refine at_box ?_);refine st_boxf K.out rfl rfl (fun _=>rfl) ?_;intro gc w1 K1;have K2:=Lib.hid K1;clear K1 K;(try clear a0 l0);(try clear a1 l1);(try clear a2 l2);have K:=K2;clear K2;have a0:=K.out.rd 0 rfl;have l0:=K.out.ltp 0 rfl))
  refine wp_region_noPanic ?_
  refine wp_region_held_drew (S:=(fun w'=>(∀ j,w'.cell? ⟨ge,j,none⟩ = e.v[j]?) ∧ (∀ j,w'.cell? ⟨gc,j,none⟩ = [Value.int .i64 c.th,.int .i64 c.sl,.int .i64 c.src,.int .i64 c.dl][j]?))) (by kernel_rfl) ?_ (fun hHeld=>?_)
  · ((try dsimp only);(refine lawS (E:=w) (M:=[]) ?_;first|exact K.out|exact K.out.drew))
  refine tk 0 (some 21) ?_
  try simp only[Act.put,p0,p1,p2]
  refine tk 1 (some 22) ?_
  try simp only[Act.put,p0,p1,p2]
  refine tk 2 (some 23) ?_
  try simp only[Act.put,p0,p1,p2]
  refine tk 3 (some 24) ?_
  try simp only[Act.put,p0,p1,p2]
  refine tk 4 (some 25) ?_
  try simp only[Act.put,p0,p1,p2]
  refine tk 5 (some 26) ?_
  try simp only[Act.put,p0,p1,p2]
  refine tk 6 (some 27) ?_
  try simp only[Act.put,p0,p1,p2]
  refine tk 7 (some 28) ?_
  try simp only[Act.put,p0,p1,p2]
  refine tk 8 (some 29) ?_
  try simp only[Act.put,p0,p1,p2]
  refine tk 9 (some 30) ?_
  try simp only[Act.put,p0,p1,p2]
  refine tk 10 (some 31) ?_
  try simp only[Act.put,p0,p1,p2]
  refine tk 11 (some 32) ?_
  try simp only[Act.put,p0,p1,p2]
  refine tk 12 (some 33) ?_
  try simp only[Act.put,p0,p1,p2]
  refine tk 13 (some 34) ?_
  try simp only[Act.put,p0,p1,p2]
  refine tk 14 (some 35) ?_
  try simp only[Act.put,p0,p1,p2]
  refine tk 15 (some 36) ?_
  try simp only[Act.put,p0,p1,p2]
  refine tk 16 (some 37) ?_
  try simp only[Act.put,p0,p1,p2]
  refine tk 17 (some 38) ?_
  try simp only[Act.put,p0,p1,p2]
  refine tk 18 (some 39) ?_
  try simp only[Act.put,p0,p1,p2]
  refine wpAnyH_ready (rs:=[19]) (by kernel_rfl) (by simp) ?_
  refine AllReadyH.cons (o:=_) rfl (fun kC hkC=>?_) AllReadyH.nil
  go_simp
  (first|((first|(go_at_call 18;(with_reducible refine ((CN _).out).mono ?_))|(go_at_call 90;(with_reducible refine ((LA _ _ K.out.below).out).mono ?_))|(go_at_call 90;(with_reducible refine ((LA _ _ K.out.drew.below).out).mono ?_)));rintro e w1 ⟨rfl,hb⟩;have K1:=sat.grown (show sat _ _ _ from by first|exact K.out|exact K.out.drew) hb;clear hb;have K2:=Lib.hid K1;clear K1 K;have K:=K2;clear K2))
  refine shown hkC _ _ (by (try dsimp only);(refine lawS (E:=w) (M:=[]) ?_;first|exact K.out|exact K.out.drew)) ?_;clear hkC kC hHeld;intro hHeld
  try simp only[Act.put,p0,p1,p2]
  refine tk 20 (some 41) ?_
  try simp only[Act.put,p0,p1,p2]
  refine tk 21 (some 42) ?_
  try simp only[Act.put,p0,p1,p2]
  refine tk 22 (some 43) ?_
  try simp only[Act.put,p0,p1,p2]
  refine tk 23 (some 44) ?_
  try simp only[Act.put,p0,p1,p2]
  refine tk 24 (some 45) ?_
  try simp only[Act.put,p0,p1,p2]
  refine tk 25 (some 46) ?_
  try simp only[Act.put,p0,p1,p2]
  refine tk 26 (some 47) ?_
  try simp only[Act.put,p0,p1,p2]
  refine tk 27 (some 48) ?_
  try simp only[Act.put,p0,p1,p2]
  refine wpAnyH_ready (rs:=[28]) (by kernel_rfl) (by simp) ?_
  refine AllReadyH.cons (o:=_) rfl (fun kC hkC=>?_) AllReadyH.nil
  go_simp
  (first|((first|(go_at_call 18;(with_reducible refine ((CN _).out).mono ?_))|(go_at_call 90;(with_reducible refine ((LA _ _ K.out.below).out).mono ?_))|(go_at_call 90;(with_reducible refine ((LA _ _ K.out.drew.below).out).mono ?_)));rintro e w1 ⟨rfl,hb⟩;have K1:=sat.grown (show sat _ _ _ from by first|exact K.out|exact K.out.drew) hb;clear hb;have K2:=Lib.hid K1;clear K1 K;have K:=K2;clear K2))
  refine shown hkC _ _ (by (try dsimp only);(refine lawS (E:=w) (M:=[]) ?_;first|exact K.out|exact K.out.drew)) ?_;clear hkC kC hHeld;intro hHeld
  try simp only[Act.put,p0,p1,p2]
  refine tk 29 (some 50) ?_
  try simp only[Act.put,p0,p1,p2]
  refine tk 30 (some 51) ?_
  try simp only[Act.put,p0,p1,p2]
  have K1:=K.out;have K2:=Lib.hid K1;clear K1 K;(try clear a0 l0);(try clear f0);(try clear a1 l1);(try clear f1);(try clear a2 l2);(try clear f2);(try clear a3 l3);(try clear f3);(try clear a4 l4);(try clear f4);(try clear a5 l5);(try clear f5);have K:=K2;clear K2;(try have a0:=K.out.rd 0 rfl);(try have l0:=K.out.ltp 0 rfl);(try have f0:=K.out.fr 0 rfl);(try have a1:=K.out.rd 1 rfl);(try have l1:=K.out.ltp 1 rfl);(try have f1:=K.out.fr 1 rfl);(try have a2:=K.out.rd 2 rfl);(try have l2:=K.out.ltp 2 rfl);(try have f2:=K.out.fr 2 rfl);(try have a3:=K.out.rd 3 rfl);(try have l3:=K.out.ltp 3 rfl);(try have f3:=K.out.fr 3 rfl)
  refine wpAnyH_done (by kernel_rfl) (NoPanic.normal ?_) _
  (have K1 : sat w _ _:=(by first|exact K.out|exact K.out.drew);clear K;(try clear a0 l0);(try clear a1 l1);have K:=Lib.hid K1;clear K1)
  have a0:=K.out.rd 0 rfl
  have l0:=K.out.ltp 0 rfl
  have a1:=K.out.rd 1 rfl
  have l1:=K.out.ltp 1 rfl
  go_wp2_with (first|((first|(go_at_call 31;(with_reducible refine ((AL _).out).mono ?_))|(go_at_call 90;(with_reducible refine ((LA _ _ (RowKit.Hid.out K).below).out).mono ?_))|(go_at_call 91;(with_reducible refine ((U _).out).mono ?_)));rintro e w1 ⟨rfl,hb⟩;have K1:=sat.grown (by repeat (with_reducible first|exact K.out|apply sat.alloc_any|apply sat.drew|apply sat.drewN)) hb;clear hb;have K2:=Lib.hid K1;clear K1 K;(try clear a0 l0);(try clear a1 l1);(try clear a2 l2);have K:=K2;clear K2;have a0:=K.out.rd 0 rfl;have l0:=K.out.ltp 0 rfl;have a1:=K.out.rd 1 rfl;have l1:=K.out.ltp 1 rfl)|(go_at_call 93;(with_reducible refine ((LD _ (RowKit.Hid.out K).below).out).mono ?_);rintro e w1 ⟨rfl,hb⟩;have K1:=sat.grown (by repeat (with_reducible first|exact K.out|apply sat.alloc_any|apply sat.drew|apply sat.drewN)) hb;clear hb;have K2:=Lib.hid K1;clear K1 K;(try clear a0 l0);(try clear a1 l1);(try clear a2 l2);have K:=K2;clear K2;have a0:=K.out.rd 0 rfl;have l0:=K.out.ltp 0 rfl;have a1:=K.out.rd 1 rfl;have l1:=K.out.ltp 1 rfl;have a2:=K.out.rd 2 rfl;have l2:=K.out.ltp 2 rfl)|(have _hp:=g17;((with_reducible refine at_alloc ?_);refine st_allocf K.out (fun _=>rfl) ?_;intro g18 w1 K1;have K2:=Lib.hid K1;clear K1 K;(try clear a0 l0);(try clear a1 l1);(try clear a2 l2);have K:=K2;clear K2;have a0:=K.out.rd 0 rfl;have l0:=K.out.ltp 0 rfl;have a1:=K.out.rd 1 rfl;have l1:=K.out.ltp 1 rfl;have a2:=K.out.rd 2 rfl;have l2:=K.out.ltp 2 rfl;have a3:=K.out.rd 3 rfl;have l3:=K.out.ltp 3 rfl))|((with_reducible refine at_alloc ?_);refine st_allocf K.out (fun _=>rfl) ?_;intro g17 w1 K1;have K2:=Lib.hid K1;clear K1 K;(try clear a0 l0);(try clear a1 l1);(try clear a2 l2);have K:=K2;clear K2;have a0:=K.out.rd 0 rfl;have l0:=K.out.ltp 0 rfl;have a1:=K.out.rd 1 rfl;have l1:=K.out.ltp 1 rfl;have a2:=K.out.rd 2 rfl;have l2:=K.out.ltp 2 rfl)|(have _hp:=g18;((with_reducible refine at_store ?_);refine st_store 0 K.out rfl rfl rfl rfl ?_ ?_ ?_ ?_;(· kernel_rfl);(· simp);(· simp [Value.oneCell']);intro w1 K1;simp only [List.set,putL] at K1;have K2:=Lib.hid K1;clear K1 K;(try clear a0 l0);(try clear a1 l1);(try clear a2 l2);have K:=K2;clear K2;have a0:=K.out.rd 0 rfl;have l0:=K.out.ltp 0 rfl;have a1:=K.out.rd 1 rfl;have l1:=K.out.ltp 1 rfl;have a2:=K.out.rd 2 rfl;have l2:=K.out.ltp 2 rfl;have a3:=K.out.rd 3 rfl;have l3:=K.out.ltp 3 rfl))|((fail_if_success (have _hq:=g18));((with_reducible refine at_store ?_);refine st_store 0 K.out rfl rfl rfl rfl ?_ ?_ ?_ ?_;(· kernel_rfl);(· simp);(· simp [Value.oneCell']);intro w1 K1;simp only [List.set,putL] at K1;have K2:=Lib.hid K1;clear K1 K;(try clear a0 l0);(try clear a1 l1);(try clear a2 l2);have K:=K2;clear K2;have a0:=K.out.rd 0 rfl;have l0:=K.out.ltp 0 rfl;have a1:=K.out.rd 1 rfl;have l1:=K.out.ltp 1 rfl;have a2:=K.out.rd 2 rfl;have l2:=K.out.ltp 2 rfl)))
  refine wp_region_noPanic ?_
  refine wp_region_held_drew (S:=(fun w'=>(∀ j,w'.cell? ⟨g18,j,none⟩ = [Value.int .i64 (unpack x).state,.int .i64 (unpack x).fin,.int .i64 (unpack x).gen,.int .i64 (unpack x).stamp.lo,.int .i64 (unpack x).stamp.hi][j]?) ∧ (∀ j,w'.cell? ⟨g17,j,none⟩ = (wordL wd)[j]?) ∧ (∀ j,w'.cell? ⟨ge,j,none⟩ = e.v[j]?) ∧ (∀ j,w'.cell? ⟨gc,j,none⟩ = [Value.int .i64 c.th,.int .i64 c.sl,.int .i64 c.src,.int .i64 c.dl][j]?))) (by kernel_rfl) ?_ (fun hHeld=>?_)
  · ((try dsimp only);(refine lawT (E:=w) (x:=wd) (M:=[]) ?_;first|exact K.out|exact K.out.drew))
  refine tk 0 (some 154) ?_
  try simp only[Act.put,p0,p1,p2]
  refine tk 1 (some 155) ?_
  try simp only[Act.put,p0,p1,p2]
  refine tk 2 (some 156) ?_
  try simp only[Act.put,p0,p1,p2]
  refine tk 3 (some 157) ?_
  try simp only[Act.put,p0,p1,p2]
  refine tk 4 (some 158) ?_
  try simp only[Act.put,p0,p1,p2]
  refine tk 5 (some 159) ?_
  try simp only[Act.put,p0,p1,p2]
  refine tk 6 (some 160) ?_
  try simp only[Act.put,p0,p1,p2]
  refine tk 7 (some 161) ?_
  try simp only[Act.put,p0,p1,p2]
  refine tk 8 (some 162) ?_
  try simp only[Act.put,p0,p1,p2]
  refine tk 9 (some 163) ?_
  try simp only[Act.put,p0,p1,p2]
  refine tk 10 (some 164) ?_
  try simp only[Act.put,p0,p1,p2]
  refine tk 11 (some 165) ?_
  try simp only[Act.put,p0,p1,p2]
  refine tk 12 (some 166) ?_
  try simp only[Act.put,p0,p1,p2]
  refine tk 13 (some 167) ?_
  try simp only[Act.put,p0,p1,p2]
  refine tk 14 (some 168) ?_
  try simp only[Act.put,p0,p1,p2]
  refine tk 15 (some 169) ?_
  try simp only[Act.put,p0,p1,p2]
  refine tk 16 (some 170) ?_
  try simp only[Act.put,p0,p1,p2]
  refine tk 17 (some 171) ?_
  try simp only[Act.put,p0,p1,p2]
  refine tk 19 (some 173) ?_
  try simp only[Act.put,p0,p1,p2]
  refine tk 20 (some 174) ?_
  try simp only[Act.put,p0,p1,p2]
  refine tk 21 (some 175) ?_
  try simp only[Act.put,p0,p1,p2]
  refine wpAnyH_ready (rs:=[18]) (by kernel_rfl) (by simp) ?_
  refine AllReadyH.cons (o:=_) rfl (fun kC hkC=>?_) AllReadyH.nil
  go_simp
  (first|((first|(go_at_call 90;(with_reducible refine ((LA _ _ K.out.below).out).mono ?_))|(go_at_call 90;(with_reducible refine ((LA _ _ K.out.drew.below).out).mono ?_)));rintro e w1 ⟨rfl,hb⟩;have K1:=sat.grown (show sat _ _ _ from by first|exact K.out|exact K.out.drew) hb;clear hb;have K2:=Lib.hid K1;clear K1 K;have K:=K2;clear K2))
  refine shown hkC _ _ (by (try dsimp only);(refine lawT (E:=w) (x:=wd) (M:=[]) ?_;first|exact K.out|exact K.out.drew)) ?_;clear hkC kC hHeld;intro hHeld
  try simp only[Act.put,p0,p1,p2]
  refine tk 22 (some 176) ?_
  try simp only[Act.put,p0,p1,p2]
  refine tk 23 (some 177) ?_
  try simp only[Act.put,p0,p1,p2]
  refine tk 24 (some 178) ?_
  try simp only[Act.put,p0,p1,p2]
  refine sk 25 (some 179) ?_
  try simp only[Act.put,p0,p1,p2]
  refine sk 26 (some 180) ?_
  try simp only[Act.put,p0,p1,p2]
  refine sk 27 (some 181) ?_
  try simp only[Act.put,p0,p1,p2]
  refine sk 28 (some 182) ?_
  try simp only[Act.put,p0,p1,p2]
  refine sk 29 (some 183) ?_
  try simp only[Act.put,p0,p1,p2]
  refine sk 30 (some 184) ?_
  try simp only[Act.put,p0,p1,p2]
  refine sk 31 (some 185) ?_
  try simp only[Act.put,p0,p1,p2]
  refine sk 32 (some 186) ?_
  try simp only[Act.put,p0,p1,p2]
  refine sk 33 (some 187) ?_
  try simp only[Act.put,p0,p1,p2]
  refine sk 34 (some 188) ?_
  try simp only[Act.put,p0,p1,p2]
  refine sk 35 (some 189) ?_
  try simp only[Act.put,p0,p1,p2]
  refine sk 36 (some 190) ?_
  try simp only[Act.put,p0,p1,p2]
  refine sk 37 (some 191) ?_
  try simp only[Act.put,p0,p1,p2]
  refine sk 38 (some 192) ?_
  try simp only[Act.put,p0,p1,p2]
  refine sk 39 (some 193) ?_
  try simp only[Act.put,p0,p1,p2]
  refine tk 40 (some 194) ?_
  try simp only[Act.put,p0,p1,p2]
  refine tk 41 (some 6) ?_
  try simp only[Act.put,p0,p1,p2]
  have K1:=K.out;have K2:=Lib.hid K1;clear K1 K;(try clear a0 l0);(try clear f0);(try clear a1 l1);(try clear f1);(try clear a2 l2);(try clear f2);(try clear a3 l3);(try clear f3);(try clear a4 l4);(try clear f4);(try clear a5 l5);(try clear f5);have K:=K2;clear K2;(try have a0:=K.out.rd 0 rfl);(try have l0:=K.out.ltp 0 rfl);(try have f0:=K.out.fr 0 rfl);(try have a1:=K.out.rd 1 rfl);(try have l1:=K.out.ltp 1 rfl);(try have f1:=K.out.fr 1 rfl);(try have a2:=K.out.rd 2 rfl);(try have l2:=K.out.ltp 2 rfl);(try have f2:=K.out.fr 2 rfl);(try have a3:=K.out.rd 3 rfl);(try have l3:=K.out.ltp 3 rfl);(try have f3:=K.out.fr 3 rfl)
  refine wpAnyH_done (by kernel_rfl) (NoPanic.normal ?_) _
  go_wp2
  go_ret
  exact ⟨ret_b (by simp_all),(show sat w _ _ from by first|exact K.out|exact K.out.drew).below⟩
theorem lmay_value0f (c : ConfM) (hc : c.ok) (p : Option Addr) (l : List Ev) (cap : Nat) (e : Ev) (w : World) (hl : l.length ≤ 1000000) (hwf : ∀ e ∈ l,Ev.wf e) (he : Ev.wf e) (h : OldE w p l) (h0 : 0 ≤ e.who) (h1 : e.who < c.th) (h2 : 0 ≤ e.cell) (h3 : e.cell < c.cells) (h4 : e.old = lastM l e.cell) (hkc : c.all ≤ e.cell) (hkd : e.cell < 2 * c.all) (ho : e.op = 0) (x : Int) (hld : loadedM l e.who (e.cell - c.all) = some x) (hg : (unpack x).gen = (unpack (lastM l (e.cell - c.all))).gen) (hs : lastM l (c.hazard e.who) ≠ u64M (e.cell - c.all + 1)) :
    Tells 66 #[.agg #[.int .i64 c.th,.int .i64 c.sl,.int .i64 c.src,.int .i64 c.dl],.slice p l.length cap,.agg e.v.toArray] w (.bool (valueB c (lastM l) (rdM l e.who (e.cell - c.all)) e (e.cell - c.all))):=by
  have K:=Lib.hid (sat.start w)
  have CN:=fun w'=>Lib.hid (cellsn_calls c w' hc)
  have AL:=fun w'=>Lib.hid (all_calls c w' hc)
  have HB:=Lib.hid h
  have LA:=fun w' x (hb : Below w.heap.size w w')=>Lib.hid (last_calls p l cap x w' hl (h.grown hb))
  have hal:=hc.all_bd
  have hth1:=hc.th1
  have hth2:=hc.th2
  have hsl:=hc.sl1
  have hcl : c.cells = 2 * c.all + 2 * c.th:=rfl
  have hcell : e.cell ≤ 8400:=by omega
  obtain ⟨slot,hslot⟩ : ∃ s,s = e.cell - c.all:=⟨_,rfl⟩
  have s0 : 0 ≤ slot:=by omega
  have s1 : slot < c.all:=by omega
  have w1 : wrap64 (e.cell - c.all) = slot:=by rw [w64 (by omega) (by omega)];exact hslot.symm
  have w2 : IntKind.i64.wrap (2 * c.all) = 2 * c.all:=wi (by omega) (by omega)
  have w3 : IntKind.i64.wrap (2 * c.all + e.who) = c.hazard e.who:=by unfold ConfM.hazard;exact wi (by omega) (by omega)
  have w4 : IntKind.i64.wrap (slot + 1) = slot + 1:=wi (by omega) (by omega)
  have w5 : IntKind.u64.wrap (slot + 1) = u64M (slot + 1):=by rw [IntKind.wrap_u64];rfl
  have w6 : wrap64 (2 * c.all) = 2 * c.all:=w64 (by omega) (by omega)
  have w7 : e.cell - c.all = slot:=hslot.symm
  have w8 : wrap64 slot = slot:=w64 (by omega) (by omega)
  have ow : IntKind.i64.wrap (Int.tdiv slot c.sl) = ownerM c slot:=by
    unfold ownerM
    rw [Int.tdiv_eq_ediv_of_nonneg s0]
    have:=Int.ediv_le_self c.sl s0
    have:=Int.ediv_nonneg s0 (b:=c.sl) (by omega)
    exact wi (by omega) (by omega)
  have z0 : (c.sl == 0) = false:=by simp;omega
  have z1 : ¬ c.sl = 0:=by omega
  have t6 : decide (e.cell < c.all) = false:=by simp;omega
  have t7 : decide (e.cell < 2 * c.all) = true:=by simpa using hkd
  have lb:=lastM_bd l hwf slot
  have U:=fun w'=>Lib.hid (unpack_lay (lastM l slot) lb.1 lb.2 w')
  have LD:=fun w' (hb : Below w.heap.size w w')=>Lib.hid (loaded_calls p l cap e.who slot w' hl hwf (h.grown hb))
  rw [← hslot] at hld hg hs
  rw [show rdM l e.who (e.cell - c.all) = some (unpack x).gen by rw [← hslot];unfold rdM;rw [hld];rfl]
  rw [hld] at LD
  have LD : ∀ w',Below w.heap.size w w' → Hid (Tells 93 #[.slice p l.length cap,.int .i64 e.who,.int .i64 slot] w' (.tuple #[wordV (unpack x),.bool true])):=LD
  unfold valueB
  rw [← hslot]
  generalize u64M (slot + 1) = sx at *
  generalize unpack (lastM l slot) = wd at *
  generalize ownerM c slot = own at *
  rw [if_pos ho]
  (try dsimp only)
  have o0 : (e.op == 0) = true:=by simp [ho]
  have o1 : (e.op == 1) = false:=by simp [ho]
  have o2 : (e.op == 2) = false:=by simp [ho]
  have q1 : ((unpack x).gen == wd.gen) = true:=by simpa using hg
  have q2 : (lastM l (c.hazard e.who) == sx) = false:=by simpa using hs
  clear ho hld hg hs
  have t5 : (e.old != lastM l e.cell) = false:=by simp [h4]
  have t1 : decide (e.who < 0) = false:=by simp;omega
  have t2 : decide (e.who ≥ c.th) = false:=by simp;omega
  have t3 : decide (e.cell < 0) = false:=by simp;omega
  have t4 : decide (e.cell ≥ c.cells) = false:=by simp;omega
  clear h hwf he hcl hc hl lb hal hth1 hth2 h0 h1 h2 h3 h4 hkd hkc s0 s1 hsl hcell hslot
  go_enter Tryz.func66,Tryz.ntmps66
  go_wp2_with (first|(have _hp:=gc;((with_reducible refine at_box ?_);refine st_boxf K.out rfl rfl (fun _=>rfl) ?_;intro ge w1 K1;have K2:=Lib.hid K1;clear K1 K;(try clear a0 l0);(try clear a1 l1);(try clear a2 l2);have K:=K2;clear K2;have a0:=K.out.rd 0 rfl;have l0:=K.out.ltp 0 rfl;have a1:=K.out.rd 1 rfl;have l1:=K.out.ltp 1 rfl))|((with_reducible refine at_box ?_);refine st_boxf K.out rfl rfl (fun _=>rfl) ?_;intro gc w1 K1;have K2:=Lib.hid K1;clear K1 K;(try clear a0 l0);(try clear a1 l1);(try clear a2 l2);have K:=K2;clear K2;have a0:=K.out.rd 0 rfl;have l0:=K.out.ltp 0 rfl))
  refine wp_region_noPanic ?_
  refine wp_region_held_drew (S:=(fun w'=>(∀ j,w'.cell? ⟨ge,j,none⟩ = e.v[j]?) ∧ (∀ j,w'.cell? ⟨gc,j,none⟩ = [Value.int .i64 c.th,.int .i64 c.sl,.int .i64 c.src,.int .i64 c.dl][j]?))) (by kernel_rfl) ?_ (fun hHeld=>?_)
  · ((try dsimp only);(refine lawS (E:=w) (M:=[]) ?_;first|exact K.out|exact K.out.drew))
  refine tk 0 (some 21) ?_
  try simp only[Act.put,p0,p1,p2]
  refine tk 1 (some 22) ?_
  try simp only[Act.put,p0,p1,p2]
  refine tk 2 (some 23) ?_
  try simp only[Act.put,p0,p1,p2]
  refine tk 3 (some 24) ?_
  try simp only[Act.put,p0,p1,p2]
  refine tk 4 (some 25) ?_
  try simp only[Act.put,p0,p1,p2]
  refine tk 5 (some 26) ?_
  try simp only[Act.put,p0,p1,p2]
  refine tk 6 (some 27) ?_
  try simp only[Act.put,p0,p1,p2]
  refine tk 7 (some 28) ?_
  try simp only[Act.put,p0,p1,p2]
  refine tk 8 (some 29) ?_
  try simp only[Act.put,p0,p1,p2]
  refine tk 9 (some 30) ?_
  try simp only[Act.put,p0,p1,p2]
  refine tk 10 (some 31) ?_
  try simp only[Act.put,p0,p1,p2]
  refine tk 11 (some 32) ?_
  try simp only[Act.put,p0,p1,p2]
  refine tk 12 (some 33) ?_
  try simp only[Act.put,p0,p1,p2]
  refine tk 13 (some 34) ?_
  try simp only[Act.put,p0,p1,p2]
  refine tk 14 (some 35) ?_
  try simp only[Act.put,p0,p1,p2]
  refine tk 15 (some 36) ?_
  try simp only[Act.put,p0,p1,p2]
  refine tk 16 (some 37) ?_
  try simp only[Act.put,p0,p1,p2]
  refine tk 17 (some 38) ?_
  try simp only[Act.put,p0,p1,p2]
  refine tk 18 (some 39) ?_
  try simp only[Act.put,p0,p1,p2]
  refine wpAnyH_ready (rs:=[19]) (by kernel_rfl) (by simp) ?_
  refine AllReadyH.cons (o:=_) rfl (fun kC hkC=>?_) AllReadyH.nil
  go_simp
  (first|((first|(go_at_call 18;(with_reducible refine ((CN _).out).mono ?_))|(go_at_call 90;(with_reducible refine ((LA _ _ K.out.below).out).mono ?_))|(go_at_call 90;(with_reducible refine ((LA _ _ K.out.drew.below).out).mono ?_)));rintro e w1 ⟨rfl,hb⟩;have K1:=sat.grown (show sat _ _ _ from by first|exact K.out|exact K.out.drew) hb;clear hb;have K2:=Lib.hid K1;clear K1 K;have K:=K2;clear K2))
  refine shown hkC _ _ (by (try dsimp only);(refine lawS (E:=w) (M:=[]) ?_;first|exact K.out|exact K.out.drew)) ?_;clear hkC kC hHeld;intro hHeld
  try simp only[Act.put,p0,p1,p2]
  refine tk 20 (some 41) ?_
  try simp only[Act.put,p0,p1,p2]
  refine tk 21 (some 42) ?_
  try simp only[Act.put,p0,p1,p2]
  refine tk 22 (some 43) ?_
  try simp only[Act.put,p0,p1,p2]
  refine tk 23 (some 44) ?_
  try simp only[Act.put,p0,p1,p2]
  refine tk 24 (some 45) ?_
  try simp only[Act.put,p0,p1,p2]
  refine tk 25 (some 46) ?_
  try simp only[Act.put,p0,p1,p2]
  refine tk 26 (some 47) ?_
  try simp only[Act.put,p0,p1,p2]
  refine tk 27 (some 48) ?_
  try simp only[Act.put,p0,p1,p2]
  refine wpAnyH_ready (rs:=[28]) (by kernel_rfl) (by simp) ?_
  refine AllReadyH.cons (o:=_) rfl (fun kC hkC=>?_) AllReadyH.nil
  go_simp
  (first|((first|(go_at_call 18;(with_reducible refine ((CN _).out).mono ?_))|(go_at_call 90;(with_reducible refine ((LA _ _ K.out.below).out).mono ?_))|(go_at_call 90;(with_reducible refine ((LA _ _ K.out.drew.below).out).mono ?_)));rintro e w1 ⟨rfl,hb⟩;have K1:=sat.grown (show sat _ _ _ from by first|exact K.out|exact K.out.drew) hb;clear hb;have K2:=Lib.hid K1;clear K1 K;have K:=K2;clear K2))
  refine shown hkC _ _ (by (try dsimp only);(refine lawS (E:=w) (M:=[]) ?_;first|exact K.out|exact K.out.drew)) ?_;clear hkC kC hHeld;intro hHeld
  try simp only[Act.put,p0,p1,p2]
  refine tk 29 (some 50) ?_
  try simp only[Act.put,p0,p1,p2]
  refine tk 30 (some 51) ?_
  try simp only[Act.put,p0,p1,p2]
  have K1:=K.out;have K2:=Lib.hid K1;clear K1 K;(try clear a0 l0);(try clear f0);(try clear a1 l1);(try clear f1);(try clear a2 l2);(try clear f2);(try clear a3 l3);(try clear f3);(try clear a4 l4);(try clear f4);(try clear a5 l5);(try clear f5);have K:=K2;clear K2;(try have a0:=K.out.rd 0 rfl);(try have l0:=K.out.ltp 0 rfl);(try have f0:=K.out.fr 0 rfl);(try have a1:=K.out.rd 1 rfl);(try have l1:=K.out.ltp 1 rfl);(try have f1:=K.out.fr 1 rfl);(try have a2:=K.out.rd 2 rfl);(try have l2:=K.out.ltp 2 rfl);(try have f2:=K.out.fr 2 rfl);(try have a3:=K.out.rd 3 rfl);(try have l3:=K.out.ltp 3 rfl);(try have f3:=K.out.fr 3 rfl)
  refine wpAnyH_done (by kernel_rfl) (NoPanic.normal ?_) _
  (have K1 : sat w _ _:=(by first|exact K.out|exact K.out.drew);clear K;(try clear a0 l0);(try clear a1 l1);have K:=Lib.hid K1;clear K1)
  have a0:=K.out.rd 0 rfl
  have l0:=K.out.ltp 0 rfl
  have a1:=K.out.rd 1 rfl
  have l1:=K.out.ltp 1 rfl
  go_wp2_with (first|((first|(go_at_call 31;(with_reducible refine ((AL _).out).mono ?_))|(go_at_call 90;(with_reducible refine ((LA _ _ (RowKit.Hid.out K).below).out).mono ?_))|(go_at_call 91;(with_reducible refine ((U _).out).mono ?_)));rintro e w1 ⟨rfl,hb⟩;have K1:=sat.grown (by repeat (with_reducible first|exact K.out|apply sat.alloc_any|apply sat.drew|apply sat.drewN)) hb;clear hb;have K2:=Lib.hid K1;clear K1 K;(try clear a0 l0);(try clear a1 l1);(try clear a2 l2);have K:=K2;clear K2;have a0:=K.out.rd 0 rfl;have l0:=K.out.ltp 0 rfl;have a1:=K.out.rd 1 rfl;have l1:=K.out.ltp 1 rfl)|(go_at_call 93;(with_reducible refine ((LD _ (RowKit.Hid.out K).below).out).mono ?_);rintro e w1 ⟨rfl,hb⟩;have K1:=sat.grown (by repeat (with_reducible first|exact K.out|apply sat.alloc_any|apply sat.drew|apply sat.drewN)) hb;clear hb;have K2:=Lib.hid K1;clear K1 K;(try clear a0 l0);(try clear a1 l1);(try clear a2 l2);have K:=K2;clear K2;have a0:=K.out.rd 0 rfl;have l0:=K.out.ltp 0 rfl;have a1:=K.out.rd 1 rfl;have l1:=K.out.ltp 1 rfl;have a2:=K.out.rd 2 rfl;have l2:=K.out.ltp 2 rfl)|(have _hp:=g17;((with_reducible refine at_alloc ?_);refine st_allocf K.out (fun _=>rfl) ?_;intro g18 w1 K1;have K2:=Lib.hid K1;clear K1 K;(try clear a0 l0);(try clear a1 l1);(try clear a2 l2);have K:=K2;clear K2;have a0:=K.out.rd 0 rfl;have l0:=K.out.ltp 0 rfl;have a1:=K.out.rd 1 rfl;have l1:=K.out.ltp 1 rfl;have a2:=K.out.rd 2 rfl;have l2:=K.out.ltp 2 rfl;have a3:=K.out.rd 3 rfl;have l3:=K.out.ltp 3 rfl))|((with_reducible refine at_alloc ?_);refine st_allocf K.out (fun _=>rfl) ?_;intro g17 w1 K1;have K2:=Lib.hid K1;clear K1 K;(try clear a0 l0);(try clear a1 l1);(try clear a2 l2);have K:=K2;clear K2;have a0:=K.out.rd 0 rfl;have l0:=K.out.ltp 0 rfl;have a1:=K.out.rd 1 rfl;have l1:=K.out.ltp 1 rfl;have a2:=K.out.rd 2 rfl;have l2:=K.out.ltp 2 rfl)|(have _hp:=g18;((with_reducible refine at_store ?_);refine st_store 0 K.out rfl rfl rfl rfl ?_ ?_ ?_ ?_;(· kernel_rfl);(· simp);(· simp [Value.oneCell']);intro w1 K1;simp only [List.set,putL] at K1;have K2:=Lib.hid K1;clear K1 K;(try clear a0 l0);(try clear a1 l1);(try clear a2 l2);have K:=K2;clear K2;have a0:=K.out.rd 0 rfl;have l0:=K.out.ltp 0 rfl;have a1:=K.out.rd 1 rfl;have l1:=K.out.ltp 1 rfl;have a2:=K.out.rd 2 rfl;have l2:=K.out.ltp 2 rfl;have a3:=K.out.rd 3 rfl;have l3:=K.out.ltp 3 rfl))|((fail_if_success (have _hq:=g18));((with_reducible refine at_store ?_);refine st_store 0 K.out rfl rfl rfl rfl ?_ ?_ ?_ ?_;(· kernel_rfl);(· simp);(· simp [Value.oneCell']);intro w1 K1;simp only [List.set,putL] at K1;have K2:=Lib.hid K1;clear K1 K;(try clear a0 l0);(try clear a1 l1);(try clear a2 l2);have K:=K2;clear K2;have a0:=K.out.rd 0 rfl;have l0:=K.out.ltp 0 rfl;have a1:=K.out.rd 1 rfl;have l1:=K.out.ltp 1 rfl;have a2:=K.out.rd 2 rfl;have l2:=K.out.ltp 2 rfl)))
  refine wp_region_noPanic ?_
  refine wp_region_held_drew (S:=(fun w'=>(∀ j,w'.cell? ⟨g18,j,none⟩ = [Value.int .i64 (unpack x).state,.int .i64 (unpack x).fin,.int .i64 (unpack x).gen,.int .i64 (unpack x).stamp.lo,.int .i64 (unpack x).stamp.hi][j]?) ∧ (∀ j,w'.cell? ⟨g17,j,none⟩ = (wordL wd)[j]?) ∧ (∀ j,w'.cell? ⟨ge,j,none⟩ = e.v[j]?) ∧ (∀ j,w'.cell? ⟨gc,j,none⟩ = [Value.int .i64 c.th,.int .i64 c.sl,.int .i64 c.src,.int .i64 c.dl][j]?))) (by kernel_rfl) ?_ (fun hHeld=>?_)
  · ((try dsimp only);(refine lawT (E:=w) (x:=wd) (M:=[]) ?_;first|exact K.out|exact K.out.drew))
  refine tk 0 (some 154) ?_
  try simp only[Act.put,p0,p1,p2]
  refine tk 1 (some 155) ?_
  try simp only[Act.put,p0,p1,p2]
  refine tk 2 (some 156) ?_
  try simp only[Act.put,p0,p1,p2]
  refine tk 3 (some 157) ?_
  try simp only[Act.put,p0,p1,p2]
  refine tk 4 (some 158) ?_
  try simp only[Act.put,p0,p1,p2]
  refine tk 5 (some 159) ?_
  try simp only[Act.put,p0,p1,p2]
  refine tk 6 (some 160) ?_
  try simp only[Act.put,p0,p1,p2]
  refine tk 7 (some 161) ?_
  try simp only[Act.put,p0,p1,p2]
  refine tk 8 (some 162) ?_
  try simp only[Act.put,p0,p1,p2]
  refine tk 9 (some 163) ?_
  try simp only[Act.put,p0,p1,p2]
  refine tk 10 (some 164) ?_
  try simp only[Act.put,p0,p1,p2]
  refine tk 11 (some 165) ?_
  try simp only[Act.put,p0,p1,p2]
  refine tk 12 (some 166) ?_
  try simp only[Act.put,p0,p1,p2]
  refine tk 13 (some 167) ?_
  try simp only[Act.put,p0,p1,p2]
  refine tk 14 (some 168) ?_
  try simp only[Act.put,p0,p1,p2]
  refine tk 15 (some 169) ?_
  try simp only[Act.put,p0,p1,p2]
  refine tk 16 (some 170) ?_
  try simp only[Act.put,p0,p1,p2]
  refine tk 17 (some 171) ?_
  try simp only[Act.put,p0,p1,p2]
  refine tk 19 (some 173) ?_
  try simp only[Act.put,p0,p1,p2]
  refine tk 20 (some 174) ?_
  try simp only[Act.put,p0,p1,p2]
  refine tk 21 (some 175) ?_
  try simp only[Act.put,p0,p1,p2]
  refine wpAnyH_ready (rs:=[18]) (by kernel_rfl) (by simp) ?_
  refine AllReadyH.cons (o:=_) rfl (fun kC hkC=>?_) AllReadyH.nil
  go_simp
  (first|((first|(go_at_call 90;(with_reducible refine ((LA _ _ K.out.below).out).mono ?_))|(go_at_call 90;(with_reducible refine ((LA _ _ K.out.drew.below).out).mono ?_)));rintro e w1 ⟨rfl,hb⟩;have K1:=sat.grown (show sat _ _ _ from by first|exact K.out|exact K.out.drew) hb;clear hb;have K2:=Lib.hid K1;clear K1 K;have K:=K2;clear K2))
  refine shown hkC _ _ (by (try dsimp only);(refine lawT (E:=w) (x:=wd) (M:=[]) ?_;first|exact K.out|exact K.out.drew)) ?_;clear hkC kC hHeld;intro hHeld
  try simp only[Act.put,p0,p1,p2]
  refine tk 22 (some 176) ?_
  try simp only[Act.put,p0,p1,p2]
  refine tk 23 (some 177) ?_
  try simp only[Act.put,p0,p1,p2]
  refine tk 24 (some 178) ?_
  try simp only[Act.put,p0,p1,p2]
  refine tk 25 (some 179) ?_
  try simp only[Act.put,p0,p1,p2]
  refine tk 26 (some 180) ?_
  try simp only[Act.put,p0,p1,p2]
  refine sk 27 (some 181) ?_
  try simp only[Act.put,p0,p1,p2]
  refine sk 28 (some 182) ?_
  try simp only[Act.put,p0,p1,p2]
  refine sk 29 (some 183) ?_
  try simp only[Act.put,p0,p1,p2]
  refine sk 30 (some 184) ?_
  try simp only[Act.put,p0,p1,p2]
  refine sk 31 (some 185) ?_
  try simp only[Act.put,p0,p1,p2]
  refine sk 32 (some 186) ?_
  try simp only[Act.put,p0,p1,p2]
  refine sk 33 (some 187) ?_
  try simp only[Act.put,p0,p1,p2]
  refine tk 34 (some 188) ?_
  try simp only[Act.put,p0,p1,p2]
  refine tk 35 (some 189) ?_
  try simp only[Act.put,p0,p1,p2]
  refine sk 36 (some 190) ?_
  try simp only[Act.put,p0,p1,p2]
  refine sk 37 (some 191) ?_
  try simp only[Act.put,p0,p1,p2]
  refine sk 38 (some 192) ?_
  try simp only[Act.put,p0,p1,p2]
  refine tk 39 (some 193) ?_
  try simp only[Act.put,p0,p1,p2]
  refine tk 40 (some 194) ?_
  try simp only[Act.put,p0,p1,p2]
  refine tk 41 (some 6) ?_
  try simp only[Act.put,p0,p1,p2]
  have K1:=K.out;have K2:=Lib.hid K1;clear K1 K;(try clear a0 l0);(try clear f0);(try clear a1 l1);(try clear f1);(try clear a2 l2);(try clear f2);(try clear a3 l3);(try clear f3);(try clear a4 l4);(try clear f4);(try clear a5 l5);(try clear f5);have K:=K2;clear K2;(try have a0:=K.out.rd 0 rfl);(try have l0:=K.out.ltp 0 rfl);(try have f0:=K.out.fr 0 rfl);(try have a1:=K.out.rd 1 rfl);(try have l1:=K.out.ltp 1 rfl);(try have f1:=K.out.fr 1 rfl);(try have a2:=K.out.rd 2 rfl);(try have l2:=K.out.ltp 2 rfl);(try have f2:=K.out.fr 2 rfl);(try have a3:=K.out.rd 3 rfl);(try have l3:=K.out.ltp 3 rfl);(try have f3:=K.out.fr 3 rfl)
  refine wpAnyH_done (by kernel_rfl) (NoPanic.normal ?_) _
  go_wp2
  go_ret
  exact ⟨ret_b (by simp_all),(show sat w _ _ from by first|exact K.out|exact K.out.drew).below⟩
theorem lmay_value1t (c : ConfM) (hc : c.ok) (p : Option Addr) (l : List Ev) (cap : Nat) (e : Ev) (w : World) (hl : l.length ≤ 1000000) (hwf : ∀ e ∈ l,Ev.wf e) (he : Ev.wf e) (h : OldE w p l) (h0 : 0 ≤ e.who) (h1 : e.who < c.th) (h2 : 0 ≤ e.cell) (h3 : e.cell < c.cells) (h4 : e.old = lastM l e.cell) (hkc : c.all ≤ e.cell) (hkd : e.cell < 2 * c.all) (ho : e.op = 1) (hw : e.who = ownerM c (e.cell - c.all)) :
    Tells 66 #[.agg #[.int .i64 c.th,.int .i64 c.sl,.int .i64 c.src,.int .i64 c.dl],.slice p l.length cap,.agg e.v.toArray] w (.bool (valueB c (lastM l) (rdM l e.who (e.cell - c.all)) e (e.cell - c.all))):=by
  have K:=Lib.hid (sat.start w)
  have CN:=fun w'=>Lib.hid (cellsn_calls c w' hc)
  have AL:=fun w'=>Lib.hid (all_calls c w' hc)
  have HB:=Lib.hid h
  have LA:=fun w' x (hb : Below w.heap.size w w')=>Lib.hid (last_calls p l cap x w' hl (h.grown hb))
  have hal:=hc.all_bd
  have hth1:=hc.th1
  have hth2:=hc.th2
  have hsl:=hc.sl1
  have hcl : c.cells = 2 * c.all + 2 * c.th:=rfl
  have hcell : e.cell ≤ 8400:=by omega
  obtain ⟨slot,hslot⟩ : ∃ s,s = e.cell - c.all:=⟨_,rfl⟩
  have s0 : 0 ≤ slot:=by omega
  have s1 : slot < c.all:=by omega
  have w1 : wrap64 (e.cell - c.all) = slot:=by rw [w64 (by omega) (by omega)];exact hslot.symm
  have w2 : IntKind.i64.wrap (2 * c.all) = 2 * c.all:=wi (by omega) (by omega)
  have w3 : IntKind.i64.wrap (2 * c.all + e.who) = c.hazard e.who:=by unfold ConfM.hazard;exact wi (by omega) (by omega)
  have w4 : IntKind.i64.wrap (slot + 1) = slot + 1:=wi (by omega) (by omega)
  have w5 : IntKind.u64.wrap (slot + 1) = u64M (slot + 1):=by rw [IntKind.wrap_u64];rfl
  have w6 : wrap64 (2 * c.all) = 2 * c.all:=w64 (by omega) (by omega)
  have w7 : e.cell - c.all = slot:=hslot.symm
  have w8 : wrap64 slot = slot:=w64 (by omega) (by omega)
  have ow : IntKind.i64.wrap (Int.tdiv slot c.sl) = ownerM c slot:=by
    unfold ownerM
    rw [Int.tdiv_eq_ediv_of_nonneg s0]
    have:=Int.ediv_le_self c.sl s0
    have:=Int.ediv_nonneg s0 (b:=c.sl) (by omega)
    exact wi (by omega) (by omega)
  have z0 : (c.sl == 0) = false:=by simp;omega
  have z1 : ¬ c.sl = 0:=by omega
  have t6 : decide (e.cell < c.all) = false:=by simp;omega
  have t7 : decide (e.cell < 2 * c.all) = true:=by simpa using hkd
  have lb:=lastM_bd l hwf slot
  have U:=fun w'=>Lib.hid (unpack_lay (lastM l slot) lb.1 lb.2 w')
  have LD:=fun w' (hb : Below w.heap.size w w')=>Lib.hid (loaded_calls p l cap e.who slot w' hl hwf (h.grown hb))
  rw [← hslot] at hw
  obtain ⟨b0,b1,b2,b3,b4,b5,hv⟩:=loadV_any (loadedM l e.who slot)
  rw [hv] at LD
  clear hv
  unfold valueB
  rw [← hslot]
  generalize u64M (slot + 1) = sx at *
  generalize unpack (lastM l slot) = wd at *
  generalize ownerM c slot = own at *
  rw [if_neg (by omega),if_pos ho]
  have o0 : (e.op == 0) = false:=by simp [ho]
  have o1 : (e.op == 1) = true:=by simp [ho]
  have o2 : (e.op == 2) = false:=by simp [ho]
  have q1 : (e.who == own) = true:=by simpa using hw
  clear ho hw
  have t5 : (e.old != lastM l e.cell) = false:=by simp [h4]
  have t1 : decide (e.who < 0) = false:=by simp;omega
  have t2 : decide (e.who ≥ c.th) = false:=by simp;omega
  have t3 : decide (e.cell < 0) = false:=by simp;omega
  have t4 : decide (e.cell ≥ c.cells) = false:=by simp;omega
  clear h hwf he hcl hc hl lb hal hth1 hth2 h0 h1 h2 h3 h4 hkd hkc s0 s1 hsl hcell hslot
  go_enter Tryz.func66,Tryz.ntmps66
  go_wp2_with (first|(have _hp:=gc;((with_reducible refine at_box ?_);refine st_boxf K.out rfl rfl (fun _=>rfl) ?_;intro ge w1 K1;have K2:=Lib.hid K1;clear K1 K;(try clear a0 l0);(try clear a1 l1);(try clear a2 l2);have K:=K2;clear K2;have a0:=K.out.rd 0 rfl;have l0:=K.out.ltp 0 rfl;have a1:=K.out.rd 1 rfl;have l1:=K.out.ltp 1 rfl))|((with_reducible refine at_box ?_);refine st_boxf K.out rfl rfl (fun _=>rfl) ?_;intro gc w1 K1;have K2:=Lib.hid K1;clear K1 K;(try clear a0 l0);(try clear a1 l1);(try clear a2 l2);have K:=K2;clear K2;have a0:=K.out.rd 0 rfl;have l0:=K.out.ltp 0 rfl))
  refine wp_region_noPanic ?_
  refine wp_region_held_drew (S:=(fun w'=>(∀ j,w'.cell? ⟨ge,j,none⟩ = e.v[j]?) ∧ (∀ j,w'.cell? ⟨gc,j,none⟩ = [Value.int .i64 c.th,.int .i64 c.sl,.int .i64 c.src,.int .i64 c.dl][j]?))) (by kernel_rfl) ?_ (fun hHeld=>?_)
  · ((try dsimp only);(refine lawS (E:=w) (M:=[]) ?_;first|exact K.out|exact K.out.drew))
  refine tk 0 (some 21) ?_
  try simp only[Act.put,p0,p1,p2]
  refine tk 1 (some 22) ?_
  try simp only[Act.put,p0,p1,p2]
  refine tk 2 (some 23) ?_
  try simp only[Act.put,p0,p1,p2]
  refine tk 3 (some 24) ?_
  try simp only[Act.put,p0,p1,p2]
  refine tk 4 (some 25) ?_
  try simp only[Act.put,p0,p1,p2]
  refine tk 5 (some 26) ?_
  try simp only[Act.put,p0,p1,p2]
  refine tk 6 (some 27) ?_
  try simp only[Act.put,p0,p1,p2]
  refine tk 7 (some 28) ?_
  try simp only[Act.put,p0,p1,p2]
  refine tk 8 (some 29) ?_
  try simp only[Act.put,p0,p1,p2]
  refine tk 9 (some 30) ?_
  try simp only[Act.put,p0,p1,p2]
  refine tk 10 (some 31) ?_
  try simp only[Act.put,p0,p1,p2]
  refine tk 11 (some 32) ?_
  try simp only[Act.put,p0,p1,p2]
  refine tk 12 (some 33) ?_
  try simp only[Act.put,p0,p1,p2]
  refine tk 13 (some 34) ?_
  try simp only[Act.put,p0,p1,p2]
  refine tk 14 (some 35) ?_
  try simp only[Act.put,p0,p1,p2]
  refine tk 15 (some 36) ?_
  try simp only[Act.put,p0,p1,p2]
  refine tk 16 (some 37) ?_
  try simp only[Act.put,p0,p1,p2]
  refine tk 17 (some 38) ?_
  try simp only[Act.put,p0,p1,p2]
  refine tk 18 (some 39) ?_
  try simp only[Act.put,p0,p1,p2]
  refine wpAnyH_ready (rs:=[19]) (by kernel_rfl) (by simp) ?_
  refine AllReadyH.cons (o:=_) rfl (fun kC hkC=>?_) AllReadyH.nil
  go_simp
  (first|((first|(go_at_call 18;(with_reducible refine ((CN _).out).mono ?_))|(go_at_call 90;(with_reducible refine ((LA _ _ K.out.below).out).mono ?_))|(go_at_call 90;(with_reducible refine ((LA _ _ K.out.drew.below).out).mono ?_)));rintro e w1 ⟨rfl,hb⟩;have K1:=sat.grown (show sat _ _ _ from by first|exact K.out|exact K.out.drew) hb;clear hb;have K2:=Lib.hid K1;clear K1 K;have K:=K2;clear K2))
  refine shown hkC _ _ (by (try dsimp only);(refine lawS (E:=w) (M:=[]) ?_;first|exact K.out|exact K.out.drew)) ?_;clear hkC kC hHeld;intro hHeld
  try simp only[Act.put,p0,p1,p2]
  refine tk 20 (some 41) ?_
  try simp only[Act.put,p0,p1,p2]
  refine tk 21 (some 42) ?_
  try simp only[Act.put,p0,p1,p2]
  refine tk 22 (some 43) ?_
  try simp only[Act.put,p0,p1,p2]
  refine tk 23 (some 44) ?_
  try simp only[Act.put,p0,p1,p2]
  refine tk 24 (some 45) ?_
  try simp only[Act.put,p0,p1,p2]
  refine tk 25 (some 46) ?_
  try simp only[Act.put,p0,p1,p2]
  refine tk 26 (some 47) ?_
  try simp only[Act.put,p0,p1,p2]
  refine tk 27 (some 48) ?_
  try simp only[Act.put,p0,p1,p2]
  refine wpAnyH_ready (rs:=[28]) (by kernel_rfl) (by simp) ?_
  refine AllReadyH.cons (o:=_) rfl (fun kC hkC=>?_) AllReadyH.nil
  go_simp
  (first|((first|(go_at_call 18;(with_reducible refine ((CN _).out).mono ?_))|(go_at_call 90;(with_reducible refine ((LA _ _ K.out.below).out).mono ?_))|(go_at_call 90;(with_reducible refine ((LA _ _ K.out.drew.below).out).mono ?_)));rintro e w1 ⟨rfl,hb⟩;have K1:=sat.grown (show sat _ _ _ from by first|exact K.out|exact K.out.drew) hb;clear hb;have K2:=Lib.hid K1;clear K1 K;have K:=K2;clear K2))
  refine shown hkC _ _ (by (try dsimp only);(refine lawS (E:=w) (M:=[]) ?_;first|exact K.out|exact K.out.drew)) ?_;clear hkC kC hHeld;intro hHeld
  try simp only[Act.put,p0,p1,p2]
  refine tk 29 (some 50) ?_
  try simp only[Act.put,p0,p1,p2]
  refine tk 30 (some 51) ?_
  try simp only[Act.put,p0,p1,p2]
  have K1:=K.out;have K2:=Lib.hid K1;clear K1 K;(try clear a0 l0);(try clear f0);(try clear a1 l1);(try clear f1);(try clear a2 l2);(try clear f2);(try clear a3 l3);(try clear f3);(try clear a4 l4);(try clear f4);(try clear a5 l5);(try clear f5);have K:=K2;clear K2;(try have a0:=K.out.rd 0 rfl);(try have l0:=K.out.ltp 0 rfl);(try have f0:=K.out.fr 0 rfl);(try have a1:=K.out.rd 1 rfl);(try have l1:=K.out.ltp 1 rfl);(try have f1:=K.out.fr 1 rfl);(try have a2:=K.out.rd 2 rfl);(try have l2:=K.out.ltp 2 rfl);(try have f2:=K.out.fr 2 rfl);(try have a3:=K.out.rd 3 rfl);(try have l3:=K.out.ltp 3 rfl);(try have f3:=K.out.fr 3 rfl)
  refine wpAnyH_done (by kernel_rfl) (NoPanic.normal ?_) _
  (have K1 : sat w _ _:=(by first|exact K.out|exact K.out.drew);clear K;(try clear a0 l0);(try clear a1 l1);have K:=Lib.hid K1;clear K1)
  have a0:=K.out.rd 0 rfl
  have l0:=K.out.ltp 0 rfl
  have a1:=K.out.rd 1 rfl
  have l1:=K.out.ltp 1 rfl
  go_wp2_with (first|((first|(go_at_call 31;(with_reducible refine ((AL _).out).mono ?_))|(go_at_call 90;(with_reducible refine ((LA _ _ (RowKit.Hid.out K).below).out).mono ?_))|(go_at_call 91;(with_reducible refine ((U _).out).mono ?_)));rintro e w1 ⟨rfl,hb⟩;have K1:=sat.grown (by repeat (with_reducible first|exact K.out|apply sat.alloc_any|apply sat.drew|apply sat.drewN)) hb;clear hb;have K2:=Lib.hid K1;clear K1 K;(try clear a0 l0);(try clear a1 l1);(try clear a2 l2);have K:=K2;clear K2;have a0:=K.out.rd 0 rfl;have l0:=K.out.ltp 0 rfl;have a1:=K.out.rd 1 rfl;have l1:=K.out.ltp 1 rfl)|(go_at_call 93;(with_reducible refine ((LD _ (RowKit.Hid.out K).below).out).mono ?_);rintro e w1 ⟨rfl,hb⟩;have K1:=sat.grown (by repeat (with_reducible first|exact K.out|apply sat.alloc_any|apply sat.drew|apply sat.drewN)) hb;clear hb;have K2:=Lib.hid K1;clear K1 K;(try clear a0 l0);(try clear a1 l1);(try clear a2 l2);have K:=K2;clear K2;have a0:=K.out.rd 0 rfl;have l0:=K.out.ltp 0 rfl;have a1:=K.out.rd 1 rfl;have l1:=K.out.ltp 1 rfl;have a2:=K.out.rd 2 rfl;have l2:=K.out.ltp 2 rfl)|(have _hp:=g17;((with_reducible refine at_alloc ?_);refine st_allocf K.out (fun _=>rfl) ?_;intro g18 w1 K1;have K2:=Lib.hid K1;clear K1 K;(try clear a0 l0);(try clear a1 l1);(try clear a2 l2);have K:=K2;clear K2;have a0:=K.out.rd 0 rfl;have l0:=K.out.ltp 0 rfl;have a1:=K.out.rd 1 rfl;have l1:=K.out.ltp 1 rfl;have a2:=K.out.rd 2 rfl;have l2:=K.out.ltp 2 rfl;have a3:=K.out.rd 3 rfl;have l3:=K.out.ltp 3 rfl))|((with_reducible refine at_alloc ?_);refine st_allocf K.out (fun _=>rfl) ?_;intro g17 w1 K1;have K2:=Lib.hid K1;clear K1 K;(try clear a0 l0);(try clear a1 l1);(try clear a2 l2);have K:=K2;clear K2;have a0:=K.out.rd 0 rfl;have l0:=K.out.ltp 0 rfl;have a1:=K.out.rd 1 rfl;have l1:=K.out.ltp 1 rfl;have a2:=K.out.rd 2 rfl;have l2:=K.out.ltp 2 rfl)|(have _hp:=g18;((with_reducible refine at_store ?_);refine st_store 0 K.out rfl rfl rfl rfl ?_ ?_ ?_ ?_;(· kernel_rfl);(· simp);(· simp [Value.oneCell']);intro w1 K1;simp only [List.set,putL] at K1;have K2:=Lib.hid K1;clear K1 K;(try clear a0 l0);(try clear a1 l1);(try clear a2 l2);have K:=K2;clear K2;have a0:=K.out.rd 0 rfl;have l0:=K.out.ltp 0 rfl;have a1:=K.out.rd 1 rfl;have l1:=K.out.ltp 1 rfl;have a2:=K.out.rd 2 rfl;have l2:=K.out.ltp 2 rfl;have a3:=K.out.rd 3 rfl;have l3:=K.out.ltp 3 rfl))|((fail_if_success (have _hq:=g18));((with_reducible refine at_store ?_);refine st_store 0 K.out rfl rfl rfl rfl ?_ ?_ ?_ ?_;(· kernel_rfl);(· simp);(· simp [Value.oneCell']);intro w1 K1;simp only [List.set,putL] at K1;have K2:=Lib.hid K1;clear K1 K;(try clear a0 l0);(try clear a1 l1);(try clear a2 l2);have K:=K2;clear K2;have a0:=K.out.rd 0 rfl;have l0:=K.out.ltp 0 rfl;have a1:=K.out.rd 1 rfl;have l1:=K.out.ltp 1 rfl;have a2:=K.out.rd 2 rfl;have l2:=K.out.ltp 2 rfl)))
  refine wp_region_noPanic ?_
  refine wp_region_held_drew (S:=(fun w'=>(∀ j,w'.cell? ⟨g18,j,none⟩ = [Value.int .i64 b0,.int .i64 b1,.int .i64 b2,.int .i64 b3,.int .i64 b4][j]?) ∧ (∀ j,w'.cell? ⟨g17,j,none⟩ = (wordL wd)[j]?) ∧ (∀ j,w'.cell? ⟨ge,j,none⟩ = e.v[j]?) ∧ (∀ j,w'.cell? ⟨gc,j,none⟩ = [Value.int .i64 c.th,.int .i64 c.sl,.int .i64 c.src,.int .i64 c.dl][j]?))) (by kernel_rfl) ?_ (fun hHeld=>?_)
  · ((try dsimp only);(refine lawT (E:=w) (x:=wd) (M:=[]) ?_;first|exact K.out|exact K.out.drew))
  refine tk 0 (some 154) ?_
  try simp only[Act.put,p0,p1,p2]
  refine tk 1 (some 155) ?_
  try simp only[Act.put,p0,p1,p2]
  refine sk 2 (some 156) ?_
  try simp only[Act.put,p0,p1,p2]
  refine tk 3 (some 157) ?_
  try simp only[Act.put,p0,p1,p2]
  refine tk 4 (some 158) ?_
  try simp only[Act.put,p0,p1,p2]
  refine sk 5 (some 159) ?_
  try simp only[Act.put,p0,p1,p2]
  refine sk 6 (some 160) ?_
  try simp only[Act.put,p0,p1,p2]
  refine sk 7 (some 161) ?_
  try simp only[Act.put,p0,p1,p2]
  refine sk 8 (some 162) ?_
  try simp only[Act.put,p0,p1,p2]
  refine sk 9 (some 163) ?_
  try simp only[Act.put,p0,p1,p2]
  refine tk 10 (some 164) ?_
  try simp only[Act.put,p0,p1,p2]
  refine tk 11 (some 165) ?_
  try simp only[Act.put,p0,p1,p2]
  refine sk 12 (some 166) ?_
  try simp only[Act.put,p0,p1,p2]
  refine sk 13 (some 167) ?_
  try simp only[Act.put,p0,p1,p2]
  refine sk 14 (some 168) ?_
  try simp only[Act.put,p0,p1,p2]
  refine sk 15 (some 169) ?_
  try simp only[Act.put,p0,p1,p2]
  refine sk 16 (some 170) ?_
  try simp only[Act.put,p0,p1,p2]
  refine sk 17 (some 171) ?_
  try simp only[Act.put,p0,p1,p2]
  refine sk 18 (some 172) ?_
  try simp only[Act.put,p0,p1,p2]
  refine sk 19 (some 173) ?_
  try simp only[Act.put,p0,p1,p2]
  refine sk 20 (some 174) ?_
  try simp only[Act.put,p0,p1,p2]
  refine sk 21 (some 175) ?_
  try simp only[Act.put,p0,p1,p2]
  refine sk 22 (some 176) ?_
  try simp only[Act.put,p0,p1,p2]
  refine tk 23 (some 177) ?_
  try simp only[Act.put,p0,p1,p2]
  refine tk 24 (some 178) ?_
  try simp only[Act.put,p0,p1,p2]
  refine tk 25 (some 179) ?_
  try simp only[Act.put,p0,p1,p2]
  refine tk 26 (some 180) ?_
  try simp only[Act.put,p0,p1,p2]
  refine tk 27 (some 181) ?_
  try simp only[Act.put,p0,p1,p2]
  refine tk 28 (some 182) ?_
  try simp only[Act.put,p0,p1,p2]
  refine tk 29 (some 183) ?_
  try simp only[Act.put,p0,p1,p2]
  refine tk 30 (some 184) ?_
  try simp only[Act.put,p0,p1,p2]
  refine tk 31 (some 185) ?_
  try simp only[Act.put,p0,p1,p2]
  refine tk 32 (some 186) ?_
  try simp only[Act.put,p0,p1,p2]
  refine tk 33 (some 187) ?_
  try simp only[Act.put,p0,p1,p2]
  refine tk 34 (some 188) ?_
  try simp only[Act.put,p0,p1,p2]
  refine tk 35 (some 189) ?_
  try simp only[Act.put,p0,p1,p2]
  refine tk 36 (some 190) ?_
  try simp only[Act.put,p0,p1,p2]
  refine tk 37 (some 191) ?_
  try simp only[Act.put,p0,p1,p2]
  refine tk 38 (some 192) ?_
  try simp only[Act.put,p0,p1,p2]
  refine tk 39 (some 193) ?_
  try simp only[Act.put,p0,p1,p2]
  refine tk 40 (some 194) ?_
  try simp only[Act.put,p0,p1,p2]
  refine tk 41 (some 6) ?_
  try simp only[Act.put,p0,p1,p2]
  have K1:=K.out;have K2:=Lib.hid K1;clear K1 K;(try clear a0 l0);(try clear f0);(try clear a1 l1);(try clear f1);(try clear a2 l2);(try clear f2);(try clear a3 l3);(try clear f3);(try clear a4 l4);(try clear f4);(try clear a5 l5);(try clear f5);have K:=K2;clear K2;(try have a0:=K.out.rd 0 rfl);(try have l0:=K.out.ltp 0 rfl);(try have f0:=K.out.fr 0 rfl);(try have a1:=K.out.rd 1 rfl);(try have l1:=K.out.ltp 1 rfl);(try have f1:=K.out.fr 1 rfl);(try have a2:=K.out.rd 2 rfl);(try have l2:=K.out.ltp 2 rfl);(try have f2:=K.out.fr 2 rfl);(try have a3:=K.out.rd 3 rfl);(try have l3:=K.out.ltp 3 rfl);(try have f3:=K.out.fr 3 rfl)
  refine wpAnyH_done (by kernel_rfl) (NoPanic.normal ?_) _
  go_wp2
  go_ret
  exact ⟨ret_b (by simp_all),(show sat w _ _ from by first|exact K.out|exact K.out.drew).below⟩
theorem lmay_value1f (c : ConfM) (hc : c.ok) (p : Option Addr) (l : List Ev) (cap : Nat) (e : Ev) (w : World) (hl : l.length ≤ 1000000) (hwf : ∀ e ∈ l,Ev.wf e) (he : Ev.wf e) (h : OldE w p l) (h0 : 0 ≤ e.who) (h1 : e.who < c.th) (h2 : 0 ≤ e.cell) (h3 : e.cell < c.cells) (h4 : e.old = lastM l e.cell) (hkc : c.all ≤ e.cell) (hkd : e.cell < 2 * c.all) (ho : e.op = 1) (hw : e.who ≠ ownerM c (e.cell - c.all)) :
    Tells 66 #[.agg #[.int .i64 c.th,.int .i64 c.sl,.int .i64 c.src,.int .i64 c.dl],.slice p l.length cap,.agg e.v.toArray] w (.bool (valueB c (lastM l) (rdM l e.who (e.cell - c.all)) e (e.cell - c.all))):=by
  have K:=Lib.hid (sat.start w)
  have CN:=fun w'=>Lib.hid (cellsn_calls c w' hc)
  have AL:=fun w'=>Lib.hid (all_calls c w' hc)
  have HB:=Lib.hid h
  have LA:=fun w' x (hb : Below w.heap.size w w')=>Lib.hid (last_calls p l cap x w' hl (h.grown hb))
  have hal:=hc.all_bd
  have hth1:=hc.th1
  have hth2:=hc.th2
  have hsl:=hc.sl1
  have hcl : c.cells = 2 * c.all + 2 * c.th:=rfl
  have hcell : e.cell ≤ 8400:=by omega
  obtain ⟨slot,hslot⟩ : ∃ s,s = e.cell - c.all:=⟨_,rfl⟩
  have s0 : 0 ≤ slot:=by omega
  have s1 : slot < c.all:=by omega
  have w1 : wrap64 (e.cell - c.all) = slot:=by rw [w64 (by omega) (by omega)];exact hslot.symm
  have w2 : IntKind.i64.wrap (2 * c.all) = 2 * c.all:=wi (by omega) (by omega)
  have w3 : IntKind.i64.wrap (2 * c.all + e.who) = c.hazard e.who:=by unfold ConfM.hazard;exact wi (by omega) (by omega)
  have w4 : IntKind.i64.wrap (slot + 1) = slot + 1:=wi (by omega) (by omega)
  have w5 : IntKind.u64.wrap (slot + 1) = u64M (slot + 1):=by rw [IntKind.wrap_u64];rfl
  have w6 : wrap64 (2 * c.all) = 2 * c.all:=w64 (by omega) (by omega)
  have w7 : e.cell - c.all = slot:=hslot.symm
  have w8 : wrap64 slot = slot:=w64 (by omega) (by omega)
  have ow : IntKind.i64.wrap (Int.tdiv slot c.sl) = ownerM c slot:=by
    unfold ownerM
    rw [Int.tdiv_eq_ediv_of_nonneg s0]
    have:=Int.ediv_le_self c.sl s0
    have:=Int.ediv_nonneg s0 (b:=c.sl) (by omega)
    exact wi (by omega) (by omega)
  have z0 : (c.sl == 0) = false:=by simp;omega
  have z1 : ¬ c.sl = 0:=by omega
  have t6 : decide (e.cell < c.all) = false:=by simp;omega
  have t7 : decide (e.cell < 2 * c.all) = true:=by simpa using hkd
  have lb:=lastM_bd l hwf slot
  have U:=fun w'=>Lib.hid (unpack_lay (lastM l slot) lb.1 lb.2 w')
  have LD:=fun w' (hb : Below w.heap.size w w')=>Lib.hid (loaded_calls p l cap e.who slot w' hl hwf (h.grown hb))
  rw [← hslot] at hw
  obtain ⟨b0,b1,b2,b3,b4,b5,hv⟩:=loadV_any (loadedM l e.who slot)
  rw [hv] at LD
  clear hv
  unfold valueB
  rw [← hslot]
  generalize u64M (slot + 1) = sx at *
  generalize unpack (lastM l slot) = wd at *
  generalize ownerM c slot = own at *
  rw [if_neg (by omega),if_pos ho]
  have o0 : (e.op == 0) = false:=by simp [ho]
  have o1 : (e.op == 1) = true:=by simp [ho]
  have o2 : (e.op == 2) = false:=by simp [ho]
  have q1 : (e.who == own) = false:=by simpa using hw
  clear ho hw
  have t5 : (e.old != lastM l e.cell) = false:=by simp [h4]
  have t1 : decide (e.who < 0) = false:=by simp;omega
  have t2 : decide (e.who ≥ c.th) = false:=by simp;omega
  have t3 : decide (e.cell < 0) = false:=by simp;omega
  have t4 : decide (e.cell ≥ c.cells) = false:=by simp;omega
  clear h hwf he hcl hc hl lb hal hth1 hth2 h0 h1 h2 h3 h4 hkd hkc s0 s1 hsl hcell hslot
  go_enter Tryz.func66,Tryz.ntmps66
  go_wp2_with (first|(have _hp:=gc;((with_reducible refine at_box ?_);refine st_boxf K.out rfl rfl (fun _=>rfl) ?_;intro ge w1 K1;have K2:=Lib.hid K1;clear K1 K;(try clear a0 l0);(try clear a1 l1);(try clear a2 l2);have K:=K2;clear K2;have a0:=K.out.rd 0 rfl;have l0:=K.out.ltp 0 rfl;have a1:=K.out.rd 1 rfl;have l1:=K.out.ltp 1 rfl))|((with_reducible refine at_box ?_);refine st_boxf K.out rfl rfl (fun _=>rfl) ?_;intro gc w1 K1;have K2:=Lib.hid K1;clear K1 K;(try clear a0 l0);(try clear a1 l1);(try clear a2 l2);have K:=K2;clear K2;have a0:=K.out.rd 0 rfl;have l0:=K.out.ltp 0 rfl))
  refine wp_region_noPanic ?_
  refine wp_region_held_drew (S:=(fun w'=>(∀ j,w'.cell? ⟨ge,j,none⟩ = e.v[j]?) ∧ (∀ j,w'.cell? ⟨gc,j,none⟩ = [Value.int .i64 c.th,.int .i64 c.sl,.int .i64 c.src,.int .i64 c.dl][j]?))) (by kernel_rfl) ?_ (fun hHeld=>?_)
  · ((try dsimp only);(refine lawS (E:=w) (M:=[]) ?_;first|exact K.out|exact K.out.drew))
  refine tk 0 (some 21) ?_
  try simp only[Act.put,p0,p1,p2]
  refine tk 1 (some 22) ?_
  try simp only[Act.put,p0,p1,p2]
  refine tk 2 (some 23) ?_
  try simp only[Act.put,p0,p1,p2]
  refine tk 3 (some 24) ?_
  try simp only[Act.put,p0,p1,p2]
  refine tk 4 (some 25) ?_
  try simp only[Act.put,p0,p1,p2]
  refine tk 5 (some 26) ?_
  try simp only[Act.put,p0,p1,p2]
  refine tk 6 (some 27) ?_
  try simp only[Act.put,p0,p1,p2]
  refine tk 7 (some 28) ?_
  try simp only[Act.put,p0,p1,p2]
  refine tk 8 (some 29) ?_
  try simp only[Act.put,p0,p1,p2]
  refine tk 9 (some 30) ?_
  try simp only[Act.put,p0,p1,p2]
  refine tk 10 (some 31) ?_
  try simp only[Act.put,p0,p1,p2]
  refine tk 11 (some 32) ?_
  try simp only[Act.put,p0,p1,p2]
  refine tk 12 (some 33) ?_
  try simp only[Act.put,p0,p1,p2]
  refine tk 13 (some 34) ?_
  try simp only[Act.put,p0,p1,p2]
  refine tk 14 (some 35) ?_
  try simp only[Act.put,p0,p1,p2]
  refine tk 15 (some 36) ?_
  try simp only[Act.put,p0,p1,p2]
  refine tk 16 (some 37) ?_
  try simp only[Act.put,p0,p1,p2]
  refine tk 17 (some 38) ?_
  try simp only[Act.put,p0,p1,p2]
  refine tk 18 (some 39) ?_
  try simp only[Act.put,p0,p1,p2]
  refine wpAnyH_ready (rs:=[19]) (by kernel_rfl) (by simp) ?_
  refine AllReadyH.cons (o:=_) rfl (fun kC hkC=>?_) AllReadyH.nil
  go_simp
  (first|((first|(go_at_call 18;(with_reducible refine ((CN _).out).mono ?_))|(go_at_call 90;(with_reducible refine ((LA _ _ K.out.below).out).mono ?_))|(go_at_call 90;(with_reducible refine ((LA _ _ K.out.drew.below).out).mono ?_)));rintro e w1 ⟨rfl,hb⟩;have K1:=sat.grown (show sat _ _ _ from by first|exact K.out|exact K.out.drew) hb;clear hb;have K2:=Lib.hid K1;clear K1 K;have K:=K2;clear K2))
  refine shown hkC _ _ (by (try dsimp only);(refine lawS (E:=w) (M:=[]) ?_;first|exact K.out|exact K.out.drew)) ?_;clear hkC kC hHeld;intro hHeld
  try simp only[Act.put,p0,p1,p2]
  refine tk 20 (some 41) ?_
  try simp only[Act.put,p0,p1,p2]
  refine tk 21 (some 42) ?_
  try simp only[Act.put,p0,p1,p2]
  refine tk 22 (some 43) ?_
  try simp only[Act.put,p0,p1,p2]
  refine tk 23 (some 44) ?_
  try simp only[Act.put,p0,p1,p2]
  refine tk 24 (some 45) ?_
  try simp only[Act.put,p0,p1,p2]
  refine tk 25 (some 46) ?_
  try simp only[Act.put,p0,p1,p2]
  refine tk 26 (some 47) ?_
  try simp only[Act.put,p0,p1,p2]
  refine tk 27 (some 48) ?_
  try simp only[Act.put,p0,p1,p2]
  refine wpAnyH_ready (rs:=[28]) (by kernel_rfl) (by simp) ?_
  refine AllReadyH.cons (o:=_) rfl (fun kC hkC=>?_) AllReadyH.nil
  go_simp
  (first|((first|(go_at_call 18;(with_reducible refine ((CN _).out).mono ?_))|(go_at_call 90;(with_reducible refine ((LA _ _ K.out.below).out).mono ?_))|(go_at_call 90;(with_reducible refine ((LA _ _ K.out.drew.below).out).mono ?_)));rintro e w1 ⟨rfl,hb⟩;have K1:=sat.grown (show sat _ _ _ from by first|exact K.out|exact K.out.drew) hb;clear hb;have K2:=Lib.hid K1;clear K1 K;have K:=K2;clear K2))
  refine shown hkC _ _ (by (try dsimp only);(refine lawS (E:=w) (M:=[]) ?_;first|exact K.out|exact K.out.drew)) ?_;clear hkC kC hHeld;intro hHeld
  try simp only[Act.put,p0,p1,p2]
  refine tk 29 (some 50) ?_
  try simp only[Act.put,p0,p1,p2]
  refine tk 30 (some 51) ?_
  try simp only[Act.put,p0,p1,p2]
  have K1:=K.out;have K2:=Lib.hid K1;clear K1 K;(try clear a0 l0);(try clear f0);(try clear a1 l1);(try clear f1);(try clear a2 l2);(try clear f2);(try clear a3 l3);(try clear f3);(try clear a4 l4);(try clear f4);(try clear a5 l5);(try clear f5);have K:=K2;clear K2;(try have a0:=K.out.rd 0 rfl);(try have l0:=K.out.ltp 0 rfl);(try have f0:=K.out.fr 0 rfl);(try have a1:=K.out.rd 1 rfl);(try have l1:=K.out.ltp 1 rfl);(try have f1:=K.out.fr 1 rfl);(try have a2:=K.out.rd 2 rfl);(try have l2:=K.out.ltp 2 rfl);(try have f2:=K.out.fr 2 rfl);(try have a3:=K.out.rd 3 rfl);(try have l3:=K.out.ltp 3 rfl);(try have f3:=K.out.fr 3 rfl)
  refine wpAnyH_done (by kernel_rfl) (NoPanic.normal ?_) _
  (have K1 : sat w _ _:=(by first|exact K.out|exact K.out.drew);clear K;(try clear a0 l0);(try clear a1 l1);have K:=Lib.hid K1;clear K1)
  have a0:=K.out.rd 0 rfl
  have l0:=K.out.ltp 0 rfl
  have a1:=K.out.rd 1 rfl
  have l1:=K.out.ltp 1 rfl
  go_wp2_with (first|((first|(go_at_call 31;(with_reducible refine ((AL _).out).mono ?_))|(go_at_call 90;(with_reducible refine ((LA _ _ (RowKit.Hid.out K).below).out).mono ?_))|(go_at_call 91;(with_reducible refine ((U _).out).mono ?_)));rintro e w1 ⟨rfl,hb⟩;have K1:=sat.grown (by repeat (with_reducible first|exact K.out|apply sat.alloc_any|apply sat.drew|apply sat.drewN)) hb;clear hb;have K2:=Lib.hid K1;clear K1 K;(try clear a0 l0);(try clear a1 l1);(try clear a2 l2);have K:=K2;clear K2;have a0:=K.out.rd 0 rfl;have l0:=K.out.ltp 0 rfl;have a1:=K.out.rd 1 rfl;have l1:=K.out.ltp 1 rfl)|(go_at_call 93;(with_reducible refine ((LD _ (RowKit.Hid.out K).below).out).mono ?_);rintro e w1 ⟨rfl,hb⟩;have K1:=sat.grown (by repeat (with_reducible first|exact K.out|apply sat.alloc_any|apply sat.drew|apply sat.drewN)) hb;clear hb;have K2:=Lib.hid K1;clear K1 K;(try clear a0 l0);(try clear a1 l1);(try clear a2 l2);have K:=K2;clear K2;have a0:=K.out.rd 0 rfl;have l0:=K.out.ltp 0 rfl;have a1:=K.out.rd 1 rfl;have l1:=K.out.ltp 1 rfl;have a2:=K.out.rd 2 rfl;have l2:=K.out.ltp 2 rfl)|(have _hp:=g17;((with_reducible refine at_alloc ?_);refine st_allocf K.out (fun _=>rfl) ?_;intro g18 w1 K1;have K2:=Lib.hid K1;clear K1 K;(try clear a0 l0);(try clear a1 l1);(try clear a2 l2);have K:=K2;clear K2;have a0:=K.out.rd 0 rfl;have l0:=K.out.ltp 0 rfl;have a1:=K.out.rd 1 rfl;have l1:=K.out.ltp 1 rfl;have a2:=K.out.rd 2 rfl;have l2:=K.out.ltp 2 rfl;have a3:=K.out.rd 3 rfl;have l3:=K.out.ltp 3 rfl))|((with_reducible refine at_alloc ?_);refine st_allocf K.out (fun _=>rfl) ?_;intro g17 w1 K1;have K2:=Lib.hid K1;clear K1 K;(try clear a0 l0);(try clear a1 l1);(try clear a2 l2);have K:=K2;clear K2;have a0:=K.out.rd 0 rfl;have l0:=K.out.ltp 0 rfl;have a1:=K.out.rd 1 rfl;have l1:=K.out.ltp 1 rfl;have a2:=K.out.rd 2 rfl;have l2:=K.out.ltp 2 rfl)|(have _hp:=g18;((with_reducible refine at_store ?_);refine st_store 0 K.out rfl rfl rfl rfl ?_ ?_ ?_ ?_;(· kernel_rfl);(· simp);(· simp [Value.oneCell']);intro w1 K1;simp only [List.set,putL] at K1;have K2:=Lib.hid K1;clear K1 K;(try clear a0 l0);(try clear a1 l1);(try clear a2 l2);have K:=K2;clear K2;have a0:=K.out.rd 0 rfl;have l0:=K.out.ltp 0 rfl;have a1:=K.out.rd 1 rfl;have l1:=K.out.ltp 1 rfl;have a2:=K.out.rd 2 rfl;have l2:=K.out.ltp 2 rfl;have a3:=K.out.rd 3 rfl;have l3:=K.out.ltp 3 rfl))|((fail_if_success (have _hq:=g18));((with_reducible refine at_store ?_);refine st_store 0 K.out rfl rfl rfl rfl ?_ ?_ ?_ ?_;(· kernel_rfl);(· simp);(· simp [Value.oneCell']);intro w1 K1;simp only [List.set,putL] at K1;have K2:=Lib.hid K1;clear K1 K;(try clear a0 l0);(try clear a1 l1);(try clear a2 l2);have K:=K2;clear K2;have a0:=K.out.rd 0 rfl;have l0:=K.out.ltp 0 rfl;have a1:=K.out.rd 1 rfl;have l1:=K.out.ltp 1 rfl;have a2:=K.out.rd 2 rfl;have l2:=K.out.ltp 2 rfl)))
  refine wp_region_noPanic ?_
  refine wp_region_held_drew (S:=(fun w'=>(∀ j,w'.cell? ⟨g18,j,none⟩ = [Value.int .i64 b0,.int .i64 b1,.int .i64 b2,.int .i64 b3,.int .i64 b4][j]?) ∧ (∀ j,w'.cell? ⟨g17,j,none⟩ = (wordL wd)[j]?) ∧ (∀ j,w'.cell? ⟨ge,j,none⟩ = e.v[j]?) ∧ (∀ j,w'.cell? ⟨gc,j,none⟩ = [Value.int .i64 c.th,.int .i64 c.sl,.int .i64 c.src,.int .i64 c.dl][j]?))) (by kernel_rfl) ?_ (fun hHeld=>?_)
  · ((try dsimp only);(refine lawT (E:=w) (x:=wd) (M:=[]) ?_;first|exact K.out|exact K.out.drew))
  refine tk 0 (some 154) ?_
  try simp only[Act.put,p0,p1,p2]
  refine tk 1 (some 155) ?_
  try simp only[Act.put,p0,p1,p2]
  refine sk 2 (some 156) ?_
  try simp only[Act.put,p0,p1,p2]
  refine tk 3 (some 157) ?_
  try simp only[Act.put,p0,p1,p2]
  refine tk 4 (some 158) ?_
  try simp only[Act.put,p0,p1,p2]
  refine sk 5 (some 159) ?_
  try simp only[Act.put,p0,p1,p2]
  refine sk 6 (some 160) ?_
  try simp only[Act.put,p0,p1,p2]
  refine sk 7 (some 161) ?_
  try simp only[Act.put,p0,p1,p2]
  refine sk 8 (some 162) ?_
  try simp only[Act.put,p0,p1,p2]
  refine sk 9 (some 163) ?_
  try simp only[Act.put,p0,p1,p2]
  refine tk 10 (some 164) ?_
  try simp only[Act.put,p0,p1,p2]
  refine tk 11 (some 165) ?_
  try simp only[Act.put,p0,p1,p2]
  refine sk 12 (some 166) ?_
  try simp only[Act.put,p0,p1,p2]
  refine sk 13 (some 167) ?_
  try simp only[Act.put,p0,p1,p2]
  refine sk 14 (some 168) ?_
  try simp only[Act.put,p0,p1,p2]
  refine sk 15 (some 169) ?_
  try simp only[Act.put,p0,p1,p2]
  refine sk 16 (some 170) ?_
  try simp only[Act.put,p0,p1,p2]
  refine sk 17 (some 171) ?_
  try simp only[Act.put,p0,p1,p2]
  refine sk 18 (some 172) ?_
  try simp only[Act.put,p0,p1,p2]
  refine sk 19 (some 173) ?_
  try simp only[Act.put,p0,p1,p2]
  refine sk 20 (some 174) ?_
  try simp only[Act.put,p0,p1,p2]
  refine sk 21 (some 175) ?_
  try simp only[Act.put,p0,p1,p2]
  refine sk 22 (some 176) ?_
  try simp only[Act.put,p0,p1,p2]
  refine tk 23 (some 177) ?_
  try simp only[Act.put,p0,p1,p2]
  refine tk 24 (some 178) ?_
  try simp only[Act.put,p0,p1,p2]
  refine tk 25 (some 179) ?_
  try simp only[Act.put,p0,p1,p2]
  refine tk 26 (some 180) ?_
  try simp only[Act.put,p0,p1,p2]
  refine tk 27 (some 181) ?_
  try simp only[Act.put,p0,p1,p2]
  refine tk 28 (some 182) ?_
  try simp only[Act.put,p0,p1,p2]
  refine tk 29 (some 183) ?_
  try simp only[Act.put,p0,p1,p2]
  refine tk 30 (some 184) ?_
  try simp only[Act.put,p0,p1,p2]
  refine tk 31 (some 185) ?_
  try simp only[Act.put,p0,p1,p2]
  refine tk 32 (some 186) ?_
  try simp only[Act.put,p0,p1,p2]
  refine tk 33 (some 187) ?_
  try simp only[Act.put,p0,p1,p2]
  refine tk 34 (some 188) ?_
  try simp only[Act.put,p0,p1,p2]
  refine tk 35 (some 189) ?_
  try simp only[Act.put,p0,p1,p2]
  refine sk 36 (some 190) ?_
  try simp only[Act.put,p0,p1,p2]
  refine sk 37 (some 191) ?_
  try simp only[Act.put,p0,p1,p2]
  refine sk 38 (some 192) ?_
  try simp only[Act.put,p0,p1,p2]
  refine tk 39 (some 193) ?_
  try simp only[Act.put,p0,p1,p2]
  refine tk 40 (some 194) ?_
  try simp only[Act.put,p0,p1,p2]
  refine tk 41 (some 6) ?_
  try simp only[Act.put,p0,p1,p2]
  have K1:=K.out;have K2:=Lib.hid K1;clear K1 K;(try clear a0 l0);(try clear f0);(try clear a1 l1);(try clear f1);(try clear a2 l2);(try clear f2);(try clear a3 l3);(try clear f3);(try clear a4 l4);(try clear f4);(try clear a5 l5);(try clear f5);have K:=K2;clear K2;(try have a0:=K.out.rd 0 rfl);(try have l0:=K.out.ltp 0 rfl);(try have f0:=K.out.fr 0 rfl);(try have a1:=K.out.rd 1 rfl);(try have l1:=K.out.ltp 1 rfl);(try have f1:=K.out.fr 1 rfl);(try have a2:=K.out.rd 2 rfl);(try have l2:=K.out.ltp 2 rfl);(try have f2:=K.out.fr 2 rfl);(try have a3:=K.out.rd 3 rfl);(try have l3:=K.out.ltp 3 rfl);(try have f3:=K.out.fr 3 rfl)
  refine wpAnyH_done (by kernel_rfl) (NoPanic.normal ?_) _
  go_wp2
  go_ret
  exact ⟨ret_b (by simp_all),(show sat w _ _ from by first|exact K.out|exact K.out.drew).below⟩
theorem lmay_valuex (c : ConfM) (hc : c.ok) (p : Option Addr) (l : List Ev) (cap : Nat) (e : Ev) (w : World) (hl : l.length ≤ 1000000) (hwf : ∀ e ∈ l,Ev.wf e) (he : Ev.wf e) (h : OldE w p l) (h0 : 0 ≤ e.who) (h1 : e.who < c.th) (h2 : 0 ≤ e.cell) (h3 : e.cell < c.cells) (h4 : e.old = lastM l e.cell) (hkc : c.all ≤ e.cell) (hkd : e.cell < 2 * c.all) (hx : e.op ≠ 0) (hy : e.op ≠ 1) :
    Tells 66 #[.agg #[.int .i64 c.th,.int .i64 c.sl,.int .i64 c.src,.int .i64 c.dl],.slice p l.length cap,.agg e.v.toArray] w (.bool (valueB c (lastM l) (rdM l e.who (e.cell - c.all)) e (e.cell - c.all))):=by
  have K:=Lib.hid (sat.start w)
  have CN:=fun w'=>Lib.hid (cellsn_calls c w' hc)
  have AL:=fun w'=>Lib.hid (all_calls c w' hc)
  have HB:=Lib.hid h
  have LA:=fun w' x (hb : Below w.heap.size w w')=>Lib.hid (last_calls p l cap x w' hl (h.grown hb))
  have hal:=hc.all_bd
  have hth1:=hc.th1
  have hth2:=hc.th2
  have hsl:=hc.sl1
  have hcl : c.cells = 2 * c.all + 2 * c.th:=rfl
  have hcell : e.cell ≤ 8400:=by omega
  obtain ⟨slot,hslot⟩ : ∃ s,s = e.cell - c.all:=⟨_,rfl⟩
  have s0 : 0 ≤ slot:=by omega
  have s1 : slot < c.all:=by omega
  have w1 : wrap64 (e.cell - c.all) = slot:=by rw [w64 (by omega) (by omega)];exact hslot.symm
  have w2 : IntKind.i64.wrap (2 * c.all) = 2 * c.all:=wi (by omega) (by omega)
  have w3 : IntKind.i64.wrap (2 * c.all + e.who) = c.hazard e.who:=by unfold ConfM.hazard;exact wi (by omega) (by omega)
  have w4 : IntKind.i64.wrap (slot + 1) = slot + 1:=wi (by omega) (by omega)
  have w5 : IntKind.u64.wrap (slot + 1) = u64M (slot + 1):=by rw [IntKind.wrap_u64];rfl
  have w6 : wrap64 (2 * c.all) = 2 * c.all:=w64 (by omega) (by omega)
  have w7 : e.cell - c.all = slot:=hslot.symm
  have w8 : wrap64 slot = slot:=w64 (by omega) (by omega)
  have ow : IntKind.i64.wrap (Int.tdiv slot c.sl) = ownerM c slot:=by
    unfold ownerM
    rw [Int.tdiv_eq_ediv_of_nonneg s0]
    have:=Int.ediv_le_self c.sl s0
    have:=Int.ediv_nonneg s0 (b:=c.sl) (by omega)
    exact wi (by omega) (by omega)
  have z0 : (c.sl == 0) = false:=by simp;omega
  have z1 : ¬ c.sl = 0:=by omega
  have t6 : decide (e.cell < c.all) = false:=by simp;omega
  have t7 : decide (e.cell < 2 * c.all) = true:=by simpa using hkd
  have lb:=lastM_bd l hwf slot
  have U:=fun w'=>Lib.hid (unpack_lay (lastM l slot) lb.1 lb.2 w')
  have LD:=fun w' (hb : Below w.heap.size w w')=>Lib.hid (loaded_calls p l cap e.who slot w' hl hwf (h.grown hb))
  obtain ⟨b0,b1,b2,b3,b4,b5,hv⟩:=loadV_any (loadedM l e.who slot)
  rw [hv] at LD
  clear hv
  unfold valueB
  rw [← hslot]
  generalize u64M (slot + 1) = sx at *
  generalize unpack (lastM l slot) = wd at *
  generalize ownerM c slot = own at *
  rw [if_neg hx,if_neg hy]
  have o0 : (e.op == 0) = false:=by simp [hx]
  have o1 : (e.op == 1) = false:=by simp [hy]
  clear hx hy
  have t5 : (e.old != lastM l e.cell) = false:=by simp [h4]
  have t1 : decide (e.who < 0) = false:=by simp;omega
  have t2 : decide (e.who ≥ c.th) = false:=by simp;omega
  have t3 : decide (e.cell < 0) = false:=by simp;omega
  have t4 : decide (e.cell ≥ c.cells) = false:=by simp;omega
  clear h hwf he hcl hc hl lb hal hth1 hth2 h0 h1 h2 h3 h4 hkd hkc s0 s1 hsl hcell hslot
  go_enter Tryz.func66,Tryz.ntmps66
  go_wp2_with (first|(have _hp:=gc;((with_reducible refine at_box ?_);refine st_boxf K.out rfl rfl (fun _=>rfl) ?_;intro ge w1 K1;have K2:=Lib.hid K1;clear K1 K;(try clear a0 l0);(try clear a1 l1);(try clear a2 l2);have K:=K2;clear K2;have a0:=K.out.rd 0 rfl;have l0:=K.out.ltp 0 rfl;have a1:=K.out.rd 1 rfl;have l1:=K.out.ltp 1 rfl))|((with_reducible refine at_box ?_);refine st_boxf K.out rfl rfl (fun _=>rfl) ?_;intro gc w1 K1;have K2:=Lib.hid K1;clear K1 K;(try clear a0 l0);(try clear a1 l1);(try clear a2 l2);have K:=K2;clear K2;have a0:=K.out.rd 0 rfl;have l0:=K.out.ltp 0 rfl))
  refine wp_region_noPanic ?_
  refine wp_region_held_drew (S:=(fun w'=>(∀ j,w'.cell? ⟨ge,j,none⟩ = e.v[j]?) ∧ (∀ j,w'.cell? ⟨gc,j,none⟩ = [Value.int .i64 c.th,.int .i64 c.sl,.int .i64 c.src,.int .i64 c.dl][j]?))) (by kernel_rfl) ?_ (fun hHeld=>?_)
  · ((try dsimp only);(refine lawS (E:=w) (M:=[]) ?_;first|exact K.out|exact K.out.drew))
  refine tk 0 (some 21) ?_
  try simp only[Act.put,p0,p1,p2]
  refine tk 1 (some 22) ?_
  try simp only[Act.put,p0,p1,p2]
  refine tk 2 (some 23) ?_
  try simp only[Act.put,p0,p1,p2]
  refine tk 3 (some 24) ?_
  try simp only[Act.put,p0,p1,p2]
  refine tk 4 (some 25) ?_
  try simp only[Act.put,p0,p1,p2]
  refine tk 5 (some 26) ?_
  try simp only[Act.put,p0,p1,p2]
  refine tk 6 (some 27) ?_
  try simp only[Act.put,p0,p1,p2]
  refine tk 7 (some 28) ?_
  try simp only[Act.put,p0,p1,p2]
  refine tk 8 (some 29) ?_
  try simp only[Act.put,p0,p1,p2]
  refine tk 9 (some 30) ?_
  try simp only[Act.put,p0,p1,p2]
  refine tk 10 (some 31) ?_
  try simp only[Act.put,p0,p1,p2]
  refine tk 11 (some 32) ?_
  try simp only[Act.put,p0,p1,p2]
  refine tk 12 (some 33) ?_
  try simp only[Act.put,p0,p1,p2]
  refine tk 13 (some 34) ?_
  try simp only[Act.put,p0,p1,p2]
  refine tk 14 (some 35) ?_
  try simp only[Act.put,p0,p1,p2]
  refine tk 15 (some 36) ?_
  try simp only[Act.put,p0,p1,p2]
  refine tk 16 (some 37) ?_
  try simp only[Act.put,p0,p1,p2]
  refine tk 17 (some 38) ?_
  try simp only[Act.put,p0,p1,p2]
  refine tk 18 (some 39) ?_
  try simp only[Act.put,p0,p1,p2]
  refine wpAnyH_ready (rs:=[19]) (by kernel_rfl) (by simp) ?_
  refine AllReadyH.cons (o:=_) rfl (fun kC hkC=>?_) AllReadyH.nil
  go_simp
  (first|((first|(go_at_call 18;(with_reducible refine ((CN _).out).mono ?_))|(go_at_call 90;(with_reducible refine ((LA _ _ K.out.below).out).mono ?_))|(go_at_call 90;(with_reducible refine ((LA _ _ K.out.drew.below).out).mono ?_)));rintro e w1 ⟨rfl,hb⟩;have K1:=sat.grown (show sat _ _ _ from by first|exact K.out|exact K.out.drew) hb;clear hb;have K2:=Lib.hid K1;clear K1 K;have K:=K2;clear K2))
  refine shown hkC _ _ (by (try dsimp only);(refine lawS (E:=w) (M:=[]) ?_;first|exact K.out|exact K.out.drew)) ?_;clear hkC kC hHeld;intro hHeld
  try simp only[Act.put,p0,p1,p2]
  refine tk 20 (some 41) ?_
  try simp only[Act.put,p0,p1,p2]
  refine tk 21 (some 42) ?_
  try simp only[Act.put,p0,p1,p2]
  refine tk 22 (some 43) ?_
  try simp only[Act.put,p0,p1,p2]
  refine tk 23 (some 44) ?_
  try simp only[Act.put,p0,p1,p2]
  refine tk 24 (some 45) ?_
  try simp only[Act.put,p0,p1,p2]
  refine tk 25 (some 46) ?_
  try simp only[Act.put,p0,p1,p2]
  refine tk 26 (some 47) ?_
  try simp only[Act.put,p0,p1,p2]
  refine tk 27 (some 48) ?_
  try simp only[Act.put,p0,p1,p2]
  refine wpAnyH_ready (rs:=[28]) (by kernel_rfl) (by simp) ?_
  refine AllReadyH.cons (o:=_) rfl (fun kC hkC=>?_) AllReadyH.nil
  go_simp
  (first|((first|(go_at_call 18;(with_reducible refine ((CN _).out).mono ?_))|(go_at_call 90;(with_reducible refine ((LA _ _ K.out.below).out).mono ?_))|(go_at_call 90;(with_reducible refine ((LA _ _ K.out.drew.below).out).mono ?_)));rintro e w1 ⟨rfl,hb⟩;have K1:=sat.grown (show sat _ _ _ from by first|exact K.out|exact K.out.drew) hb;clear hb;have K2:=Lib.hid K1;clear K1 K;have K:=K2;clear K2))
  refine shown hkC _ _ (by (try dsimp only);(refine lawS (E:=w) (M:=[]) ?_;first|exact K.out|exact K.out.drew)) ?_;clear hkC kC hHeld;intro hHeld
  try simp only[Act.put,p0,p1,p2]
  refine tk 29 (some 50) ?_
  try simp only[Act.put,p0,p1,p2]
  refine tk 30 (some 51) ?_
  try simp only[Act.put,p0,p1,p2]
  have K1:=K.out;have K2:=Lib.hid K1;clear K1 K;(try clear a0 l0);(try clear f0);(try clear a1 l1);(try clear f1);(try clear a2 l2);(try clear f2);(try clear a3 l3);(try clear f3);(try clear a4 l4);(try clear f4);(try clear a5 l5);(try clear f5);have K:=K2;clear K2;(try have a0:=K.out.rd 0 rfl);(try have l0:=K.out.ltp 0 rfl);(try have f0:=K.out.fr 0 rfl);(try have a1:=K.out.rd 1 rfl);(try have l1:=K.out.ltp 1 rfl);(try have f1:=K.out.fr 1 rfl);(try have a2:=K.out.rd 2 rfl);(try have l2:=K.out.ltp 2 rfl);(try have f2:=K.out.fr 2 rfl);(try have a3:=K.out.rd 3 rfl);(try have l3:=K.out.ltp 3 rfl);(try have f3:=K.out.fr 3 rfl)
  refine wpAnyH_done (by kernel_rfl) (NoPanic.normal ?_) _
  (have K1 : sat w _ _:=(by first|exact K.out|exact K.out.drew);clear K;(try clear a0 l0);(try clear a1 l1);have K:=Lib.hid K1;clear K1)
  have a0:=K.out.rd 0 rfl
  have l0:=K.out.ltp 0 rfl
  have a1:=K.out.rd 1 rfl
  have l1:=K.out.ltp 1 rfl
  go_wp2_with (first|((first|(go_at_call 31;(with_reducible refine ((AL _).out).mono ?_))|(go_at_call 90;(with_reducible refine ((LA _ _ (RowKit.Hid.out K).below).out).mono ?_))|(go_at_call 91;(with_reducible refine ((U _).out).mono ?_)));rintro e w1 ⟨rfl,hb⟩;have K1:=sat.grown (by repeat (with_reducible first|exact K.out|apply sat.alloc_any|apply sat.drew|apply sat.drewN)) hb;clear hb;have K2:=Lib.hid K1;clear K1 K;(try clear a0 l0);(try clear a1 l1);(try clear a2 l2);have K:=K2;clear K2;have a0:=K.out.rd 0 rfl;have l0:=K.out.ltp 0 rfl;have a1:=K.out.rd 1 rfl;have l1:=K.out.ltp 1 rfl)|(go_at_call 93;(with_reducible refine ((LD _ (RowKit.Hid.out K).below).out).mono ?_);rintro e w1 ⟨rfl,hb⟩;have K1:=sat.grown (by repeat (with_reducible first|exact K.out|apply sat.alloc_any|apply sat.drew|apply sat.drewN)) hb;clear hb;have K2:=Lib.hid K1;clear K1 K;(try clear a0 l0);(try clear a1 l1);(try clear a2 l2);have K:=K2;clear K2;have a0:=K.out.rd 0 rfl;have l0:=K.out.ltp 0 rfl;have a1:=K.out.rd 1 rfl;have l1:=K.out.ltp 1 rfl;have a2:=K.out.rd 2 rfl;have l2:=K.out.ltp 2 rfl)|(have _hp:=g17;((with_reducible refine at_alloc ?_);refine st_allocf K.out (fun _=>rfl) ?_;intro g18 w1 K1;have K2:=Lib.hid K1;clear K1 K;(try clear a0 l0);(try clear a1 l1);(try clear a2 l2);have K:=K2;clear K2;have a0:=K.out.rd 0 rfl;have l0:=K.out.ltp 0 rfl;have a1:=K.out.rd 1 rfl;have l1:=K.out.ltp 1 rfl;have a2:=K.out.rd 2 rfl;have l2:=K.out.ltp 2 rfl;have a3:=K.out.rd 3 rfl;have l3:=K.out.ltp 3 rfl))|((with_reducible refine at_alloc ?_);refine st_allocf K.out (fun _=>rfl) ?_;intro g17 w1 K1;have K2:=Lib.hid K1;clear K1 K;(try clear a0 l0);(try clear a1 l1);(try clear a2 l2);have K:=K2;clear K2;have a0:=K.out.rd 0 rfl;have l0:=K.out.ltp 0 rfl;have a1:=K.out.rd 1 rfl;have l1:=K.out.ltp 1 rfl;have a2:=K.out.rd 2 rfl;have l2:=K.out.ltp 2 rfl)|(have _hp:=g18;((with_reducible refine at_store ?_);refine st_store 0 K.out rfl rfl rfl rfl ?_ ?_ ?_ ?_;(· kernel_rfl);(· simp);(· simp [Value.oneCell']);intro w1 K1;simp only [List.set,putL] at K1;have K2:=Lib.hid K1;clear K1 K;(try clear a0 l0);(try clear a1 l1);(try clear a2 l2);have K:=K2;clear K2;have a0:=K.out.rd 0 rfl;have l0:=K.out.ltp 0 rfl;have a1:=K.out.rd 1 rfl;have l1:=K.out.ltp 1 rfl;have a2:=K.out.rd 2 rfl;have l2:=K.out.ltp 2 rfl;have a3:=K.out.rd 3 rfl;have l3:=K.out.ltp 3 rfl))|((fail_if_success (have _hq:=g18));((with_reducible refine at_store ?_);refine st_store 0 K.out rfl rfl rfl rfl ?_ ?_ ?_ ?_;(· kernel_rfl);(· simp);(· simp [Value.oneCell']);intro w1 K1;simp only [List.set,putL] at K1;have K2:=Lib.hid K1;clear K1 K;(try clear a0 l0);(try clear a1 l1);(try clear a2 l2);have K:=K2;clear K2;have a0:=K.out.rd 0 rfl;have l0:=K.out.ltp 0 rfl;have a1:=K.out.rd 1 rfl;have l1:=K.out.ltp 1 rfl;have a2:=K.out.rd 2 rfl;have l2:=K.out.ltp 2 rfl)))
  refine wp_region_noPanic ?_
  refine wp_region_held_drew (S:=(fun w'=>(∀ j,w'.cell? ⟨g18,j,none⟩ = [Value.int .i64 b0,.int .i64 b1,.int .i64 b2,.int .i64 b3,.int .i64 b4][j]?) ∧ (∀ j,w'.cell? ⟨g17,j,none⟩ = (wordL wd)[j]?) ∧ (∀ j,w'.cell? ⟨ge,j,none⟩ = e.v[j]?) ∧ (∀ j,w'.cell? ⟨gc,j,none⟩ = [Value.int .i64 c.th,.int .i64 c.sl,.int .i64 c.src,.int .i64 c.dl][j]?))) (by kernel_rfl) ?_ (fun hHeld=>?_)
  · ((try dsimp only);(refine lawT (E:=w) (x:=wd) (M:=[]) ?_;first|exact K.out|exact K.out.drew))
  refine tk 0 (some 154) ?_
  try simp only[Act.put,p0,p1,p2]
  refine tk 1 (some 155) ?_
  try simp only[Act.put,p0,p1,p2]
  refine sk 2 (some 156) ?_
  try simp only[Act.put,p0,p1,p2]
  refine tk 3 (some 157) ?_
  try simp only[Act.put,p0,p1,p2]
  refine tk 4 (some 158) ?_
  try simp only[Act.put,p0,p1,p2]
  refine sk 5 (some 159) ?_
  try simp only[Act.put,p0,p1,p2]
  refine sk 6 (some 160) ?_
  try simp only[Act.put,p0,p1,p2]
  refine sk 7 (some 161) ?_
  try simp only[Act.put,p0,p1,p2]
  refine sk 8 (some 162) ?_
  try simp only[Act.put,p0,p1,p2]
  refine sk 9 (some 163) ?_
  try simp only[Act.put,p0,p1,p2]
  refine tk 10 (some 164) ?_
  try simp only[Act.put,p0,p1,p2]
  refine tk 11 (some 165) ?_
  try simp only[Act.put,p0,p1,p2]
  refine sk 12 (some 166) ?_
  try simp only[Act.put,p0,p1,p2]
  refine sk 13 (some 167) ?_
  try simp only[Act.put,p0,p1,p2]
  refine sk 14 (some 168) ?_
  try simp only[Act.put,p0,p1,p2]
  refine sk 15 (some 169) ?_
  try simp only[Act.put,p0,p1,p2]
  refine sk 16 (some 170) ?_
  try simp only[Act.put,p0,p1,p2]
  refine sk 17 (some 171) ?_
  try simp only[Act.put,p0,p1,p2]
  refine sk 18 (some 172) ?_
  try simp only[Act.put,p0,p1,p2]
  refine sk 19 (some 173) ?_
  try simp only[Act.put,p0,p1,p2]
  refine sk 20 (some 174) ?_
  try simp only[Act.put,p0,p1,p2]
  refine sk 21 (some 175) ?_
  try simp only[Act.put,p0,p1,p2]
  refine sk 22 (some 176) ?_
  try simp only[Act.put,p0,p1,p2]
  refine tk 23 (some 177) ?_
  try simp only[Act.put,p0,p1,p2]
  refine tk 24 (some 178) ?_
  try simp only[Act.put,p0,p1,p2]
  refine tk 25 (some 179) ?_
  try simp only[Act.put,p0,p1,p2]
  refine tk 26 (some 180) ?_
  try simp only[Act.put,p0,p1,p2]
  refine sk 27 (some 181) ?_
  try simp only[Act.put,p0,p1,p2]
  refine sk 28 (some 182) ?_
  try simp only[Act.put,p0,p1,p2]
  refine sk 29 (some 183) ?_
  try simp only[Act.put,p0,p1,p2]
  refine sk 30 (some 184) ?_
  try simp only[Act.put,p0,p1,p2]
  refine sk 31 (some 185) ?_
  try simp only[Act.put,p0,p1,p2]
  refine sk 32 (some 186) ?_
  try simp only[Act.put,p0,p1,p2]
  refine sk 33 (some 187) ?_
  try simp only[Act.put,p0,p1,p2]
  refine tk 34 (some 188) ?_
  try simp only[Act.put,p0,p1,p2]
  refine tk 35 (some 189) ?_
  try simp only[Act.put,p0,p1,p2]
  refine sk 36 (some 190) ?_
  try simp only[Act.put,p0,p1,p2]
  refine sk 37 (some 191) ?_
  try simp only[Act.put,p0,p1,p2]
  refine sk 38 (some 192) ?_
  try simp only[Act.put,p0,p1,p2]
  refine tk 39 (some 193) ?_
  try simp only[Act.put,p0,p1,p2]
  refine tk 40 (some 194) ?_
  try simp only[Act.put,p0,p1,p2]
  refine tk 41 (some 6) ?_
  try simp only[Act.put,p0,p1,p2]
  have K1:=K.out;have K2:=Lib.hid K1;clear K1 K;(try clear a0 l0);(try clear f0);(try clear a1 l1);(try clear f1);(try clear a2 l2);(try clear f2);(try clear a3 l3);(try clear f3);(try clear a4 l4);(try clear f4);(try clear a5 l5);(try clear f5);have K:=K2;clear K2;(try have a0:=K.out.rd 0 rfl);(try have l0:=K.out.ltp 0 rfl);(try have f0:=K.out.fr 0 rfl);(try have a1:=K.out.rd 1 rfl);(try have l1:=K.out.ltp 1 rfl);(try have f1:=K.out.fr 1 rfl);(try have a2:=K.out.rd 2 rfl);(try have l2:=K.out.ltp 2 rfl);(try have f2:=K.out.fr 2 rfl);(try have a3:=K.out.rd 3 rfl);(try have l3:=K.out.ltp 3 rfl);(try have f3:=K.out.fr 3 rfl)
  refine wpAnyH_done (by kernel_rfl) (NoPanic.normal ?_) _
  go_wp2
  go_ret
  exact ⟨ret_b (by simp_all),(show sat w _ _ from by first|exact K.out|exact K.out.drew).below⟩
end
end Go.Proofs.YtegdhojhnmgjgaaGreat
