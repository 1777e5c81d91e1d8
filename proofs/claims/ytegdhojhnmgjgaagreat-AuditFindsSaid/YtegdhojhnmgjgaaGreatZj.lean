/- Several texts in one: AuditV AuditN AuditY AuditE AuditF. Each says ahead of it what it shows. -/
import Derived.Test.YtegdhojhnmgjgaaGreatZi
import Derived.Deep.QuietTactic
import Derived.BigQuiet
import Derived.Test.YtegdhojhnmgjgaaGreatB1
set_option linter.unusedVariables false
set_option linter.unusedSimpArgs false
namespace Go.Proofs.YtegdhojhnmgjgaaGreat
open Go.RowKit Go.SepYtegdhojhnmgjgaaGreat Go.Maps
set_option maxRecDepth 100000
set_option maxHeartbeats 4000000
section
variable {E w : World} {L : List SA} {A B C D : SA}
theorem _root_.Go.SepYtegdhojhnmgjgaaGreat.sat.rot3 (h : sat E w (D :: A :: B :: C :: L)) : sat E w (A :: B :: C :: D :: L):=h.perm ((List.Perm.swap A D _).trans (List.Perm.cons A ((List.Perm.swap B D _).trans (List.Perm.cons B (List.Perm.swap C D _)))))
theorem _root_.Go.SepYtegdhojhnmgjgaaGreat.sat.unrot3 (h : sat E w (A :: B :: C :: D :: L)) : sat E w (D :: A :: B :: C :: L):=h.pick 3 rfl
end
section
variable {E w : World} {L : List SA}
theorem seenS {ge gw a bc bs n m : Nat} {x : WordM} {e : Ev} {c : ConfM} {f g : Lit → Option Int} {M : List SA} (h : sat E w (wordA gw x :: evA ge e :: audA a c bc bs :: cellsA bc n f :: seenA bs m g :: M)) {slot who : Int} (h1 : w64P who) (h2 : w64P slot) {gk : Option Int} (hg : g (pairKey who slot) = gk) :
    (∀ j,w.cell? ⟨ge,j,none⟩ = e.v[j]?) ∧ (∀ j,w.cell? ⟨a,j,none⟩ = (audV c bc bs)[j]?) ∧ (Instr.lookup 125 (.map (some bs)) (.agg #[.int .i64 who,.int .i64 slot]) true).run Tryz.prog w = .ok (.tuple #[.int .i64 (gk.getD 0),.bool gk.isSome]) w:=by
  subst hg
  exact ⟨h.rd 1 rfl,h.rd 2 rfl,look_seen (h.pick 4 rfl) h1 h2⟩
theorem cellS {ge gw a bc bs n m : Nat} {x : WordM} {e : Ev} {c : ConfM} {f : Lit → Option Int} {M : List SA} (h : sat E w (wordA gw x :: evA ge e :: audA a c bc bs :: cellsA bc n f :: M)) {i : Int} (h1 : w64P i) :
    (∀ j,w.cell? ⟨gw,j,none⟩ = (wordL x)[j]?) ∧ (∀ j,w.cell? ⟨ge,j,none⟩ = e.v[j]?) ∧ (∀ j,w.cell? ⟨a,j,none⟩ = (audV c bc bs)[j]?) ∧ (Instr.lookup 124 (.map (some bc)) (.int .i64 i) false).run Tryz.prog w = .ok (.int .u64 ((f (.int .i64 i)).getD 0)) w :=
  ⟨h.rd 0 rfl,h.rd 1 rfl,h.rd 2 rfl,look_cells (h.pick 3 rfl) h1⟩
theorem cellT {ge gw a bc bs : Nat} {x : WordM} {e : Ev} {c : ConfM} {M : List SA} (h : sat E w (wordA gw x :: evA ge e :: audA a c bc bs :: M)) :
    (∀ j,w.cell? ⟨gw,j,none⟩ = (wordL x)[j]?) ∧ (∀ j,w.cell? ⟨ge,j,none⟩ = e.v[j]?) ∧ (∀ j,w.cell? ⟨a,j,none⟩ = (audV c bc bs)[j]?) :=
  ⟨h.rd 0 rfl,h.rd 1 rfl,h.rd 2 rfl⟩
theorem ofValue_calls (c : ConfM) (hc : c.ok) (a bc bs n m : Nat) (f g : Lit → Option Int) (slot : Int) (h0 : 0 ≤ slot) (h1 : slot < c.all) (e : Ev) (he : Ev.wf e) (hw0 : 0 ≤ e.who) (hw1 : e.who < c.th)
    (hf : ∀ i,0 ≤ (f (.int .i64 i)).getD 0 ∧ (f (.int .i64 i)).getD 0 < 18446744073709551616)
    (h : sat E w (audA a c bc bs :: cellsA bc n f :: seenA bs m g :: L)) :
    Calls Tryz.prog 88 #[.pointer (some ⟨a,0,none⟩),.agg e.v.toArray,.int .i64 slot] w fun r w'=>r = .returned (.bool (valueB c (fun i=>(f (.int .i64 i)).getD 0) (g (pairKey e.who slot)) e slot)) ∧ sat E w' (audA a c bc bs :: cellsA bc n f :: seenA bs m g :: L):=by
  have hal:=hc.all_bd
  obtain ⟨e1,e2,e3,e4⟩:=he
  have K:=Lib.hid h
  have a0:=h.rd 0 rfl
  have l0:=h.ltp 0 rfl
  have AW:=fun w' (D : SA) (h : sat E w' (audA a c bc bs :: cellsA bc n f :: seenA bs m g :: D :: L))=>Lib.hid (aword_calls c hc a bc bs n m f g slot h0 h1 hf h)
  have HZ:=fun w'=>Lib.hid (hazard_calls c w' hc e.who hw0 hw1)
  have OW:=fun w'=>Lib.hid (owner_calls c w' hc slot h0 h1)
  have hth:=hc.th2
  have HH:=Lib.hid (show w64P (c.hazard e.who) by unfold w64P ConfM.hazard;omega)
  have HS:=Lib.hid (show w64P slot by unfold w64P;omega)
  have HE:=Lib.hid (show w64P e.who from e1)
  have i1 : IntKind.i64.wrap (slot + 1) = slot + 1:=wi (by omega) (by omega)
  have i2 : IntKind.u64.wrap (slot + 1) = u64M (slot + 1):=by rw [IntKind.wrap_u64];rfl
  clear h e1 e2 e3 e4 hf hal hth hw0 hw1 hc
  unfold valueB
  generalize u64M (slot + 1) = sx at *
  generalize hgk : g (pairKey e.who slot) = gk at *
  have HG:=Lib.hid hgk
  clear hgk
  generalize hwd : unpack ((f (.int .i64 slot)).getD 0) = wd at *
  clear hwd
  by_cases o0 : e.op = 0
  · have t0 : (e.op == 0) = true:=by simpa using o0
    rw [if_pos o0]
    clear o0
    cases gk with
    | none =>
      go_enter Tryz.func88,Tryz.ntmps88
      go_wp2_with (first|((with_reducible refine at_box ?_);refine st_boxf K.out rfl rfl (fun _=>rfl) ?_;intro ge w1 K1;have K2:=Lib.hid K1;clear K1 K;(try clear a0 l0);(try clear a1 l1);(try clear a2 l2);have K:=K2;clear K2;have a0:=K.out.rd 0 rfl;have l0:=K.out.ltp 0 rfl;have a1:=K.out.rd 1 rfl;have l1:=K.out.ltp 1 rfl)|(go_at_call 113;(with_reducible refine (AW _ _ K.out.rot3).out.mono ?_);rintro r w1 ⟨rfl,K1⟩;replace K1:=K1.unrot3;have K2:=Lib.hid K1;clear K1 K a0 l0 a1 l1;have K:=K2;clear K2;have a0:=K.out.rd 0 rfl;have l0:=K.out.ltp 0 rfl;have a1:=K.out.rd 1 rfl;have l1:=K.out.ltp 1 rfl)|((with_reducible refine at_alloc ?_);refine st_allocf K.out (fun _=>rfl) ?_;intro gw w1 K1;have K2:=Lib.hid K1;clear K1 K;(try clear a0 l0);(try clear a1 l1);(try clear a2 l2);have K:=K2;clear K2;have a0:=K.out.rd 0 rfl;have l0:=K.out.ltp 0 rfl;have a1:=K.out.rd 1 rfl;have l1:=K.out.ltp 1 rfl;have a2:=K.out.rd 2 rfl;have l2:=K.out.ltp 2 rfl)|((with_reducible refine at_store ?_);refine st_store 0 K.out rfl rfl rfl rfl ?_ ?_ ?_ ?_;(· kernel_rfl);(· simp);(· simp [Value.oneCell']);intro w1 K1;simp only [List.set,putL] at K1;have K2:=Lib.hid K1;clear K1 K;(try clear a0 l0);(try clear a1 l1);(try clear a2 l2);have K:=K2;clear K2;have a0:=K.out.rd 0 rfl;have l0:=K.out.ltp 0 rfl;have a1:=K.out.rd 1 rfl;have l1:=K.out.ltp 1 rfl;have a2:=K.out.rd 2 rfl;have l2:=K.out.ltp 2 rfl))
      have K1 : sat E _ (wordA gw wd :: evA ge e :: audA a c bc bs :: cellsA bc n f :: seenA bs m g :: L):=K.out
      clear K
      have K:=Lib.hid K1
      clear K1
      go_region_held3 (fun w'=>(∀ j,w'.cell? ⟨ge,j,none⟩ = e.v[j]?) ∧ (∀ j,w'.cell? ⟨a,j,none⟩ = (audV c bc bs)[j]?) ∧ (Instr.lookup 125 (.map (some bs)) (.agg #[.int .i64 e.who,.int .i64 slot]) true).run Tryz.prog w' = .ok (.tuple #[.int .i64 0,.bool false]) w') ((refine seenS (E:=E) (gw:=gw) (n:=n) (m:=m) (f:=f) (g:=g) (x:=wd) (M:=L) (gk:=none) ?_ HE.out HS.out HG.out;exact (by repeat (with_reducible first|exact K.out|apply sat.alloc_any|apply sat.drew|apply sat.drewN)))) (fail)
      clear ‹_ ∧ _ ∧ Sem.run _ _ _ = _›
      have K1 : sat E _ _:=K.out.drew
      clear K a0 l0 a1 l1 a2 l2
      have K:=Lib.hid K1
      clear K1
      have a0:=K.out.rd 0 rfl
      have a1:=K.out.rd 1 rfl
      have a2:=K.out.rd 2 rfl
      go_wp2_with fail
      refine wp_region_noPanic ?_
      refine wp_region_held_drew (S:=(fun w'=>(∀ j,w'.cell? ⟨gw,j,none⟩ = (wordL wd)[j]?) ∧ (∀ j,w'.cell? ⟨ge,j,none⟩ = e.v[j]?) ∧ (∀ j,w'.cell? ⟨a,j,none⟩ = (audV c bc bs)[j]?) ∧ (Instr.lookup 124 (.map (some bc)) (.int .i64 (c.hazard e.who)) false).run Tryz.prog w' = .ok (.int .u64 ((f (.int .i64 (c.hazard e.who))).getD 0)) w')) (by kernel_rfl) ?_ (fun hHeld=>?_)
      · ((try dsimp only);(refine cellS (E:=E) (m:=0) (n:=n) (f:=f) (x:=wd) (e:=e) (c:=c) (M:=seenA bs m g :: L) ?_ HH.out;exact (by repeat (with_reducible first|exact K.out|apply sat.alloc_any|apply sat.drew|apply sat.drewN))))
      refine tk 0 (some 29) ?_
      try simp only[Act.put,p0,p1,p2]
      refine tk 1 (some 30) ?_
      try simp only[Act.put,p0,p1,p2]
      refine sk 2 (some 31) ?_
      try simp only[Act.put,p0,p1,p2]
      refine sk 3 (some 32) ?_
      try simp only[Act.put,p0,p1,p2]
      refine sk 4 (some 33) ?_
      try simp only[Act.put,p0,p1,p2]
      refine sk 5 (some 34) ?_
      try simp only[Act.put,p0,p1,p2]
      refine tk 6 (some 35) ?_
      try simp only[Act.put,p0,p1,p2]
      refine tk 7 (some 36) ?_
      try simp only[Act.put,p0,p1,p2]
      refine sk 8 (some 37) ?_
      try simp only[Act.put,p0,p1,p2]
      refine sk 9 (some 38) ?_
      try simp only[Act.put,p0,p1,p2]
      refine sk 10 (some 39) ?_
      try simp only[Act.put,p0,p1,p2]
      refine sk 11 (some 40) ?_
      try simp only[Act.put,p0,p1,p2]
      refine sk 12 (some 41) ?_
      try simp only[Act.put,p0,p1,p2]
      refine sk 13 (some 42) ?_
      try simp only[Act.put,p0,p1,p2]
      refine sk 14 (some 43) ?_
      try simp only[Act.put,p0,p1,p2]
      refine sk 15 (some 44) ?_
      try simp only[Act.put,p0,p1,p2]
      refine sk 16 (some 45) ?_
      try simp only[Act.put,p0,p1,p2]
      refine sk 17 (some 46) ?_
      try simp only[Act.put,p0,p1,p2]
      refine sk 18 (some 47) ?_
      try simp only[Act.put,p0,p1,p2]
      refine sk 19 (some 48) ?_
      try simp only[Act.put,p0,p1,p2]
      refine sk 20 (some 49) ?_
      try simp only[Act.put,p0,p1,p2]
      refine sk 21 (some 50) ?_
      try simp only[Act.put,p0,p1,p2]
      refine sk 22 (some 51) ?_
      try simp only[Act.put,p0,p1,p2]
      refine sk 23 (some 52) ?_
      try simp only[Act.put,p0,p1,p2]
      refine tk 24 (some 53) ?_
      try simp only[Act.put,p0,p1,p2]
      refine tk 25 (some 6) ?_
      try simp only[Act.put,p0,p1,p2]
      refine wpAnyH_done (by kernel_rfl) (NoPanic.normal ?_) _
      go_wp2
      go_ret
      exact ⟨ret_b (by simp_all),(show sat E _ _ from (by repeat (with_reducible first|exact K.out|apply sat.alloc_any|apply sat.drew|apply sat.drewN))).drop.drop⟩
    | some gn =>
      by_cases q1 : gn = wd.gen
      · have q2 : (gn == wd.gen) = true:=by simpa using q1
        clear q1
        go_enter Tryz.func88,Tryz.ntmps88
        go_wp2_with (first|((with_reducible refine at_box ?_);refine st_boxf K.out rfl rfl (fun _=>rfl) ?_;intro ge w1 K1;have K2:=Lib.hid K1;clear K1 K;(try clear a0 l0);(try clear a1 l1);(try clear a2 l2);have K:=K2;clear K2;have a0:=K.out.rd 0 rfl;have l0:=K.out.ltp 0 rfl;have a1:=K.out.rd 1 rfl;have l1:=K.out.ltp 1 rfl)|(go_at_call 113;(with_reducible refine (AW _ _ K.out.rot3).out.mono ?_);rintro r w1 ⟨rfl,K1⟩;replace K1:=K1.unrot3;have K2:=Lib.hid K1;clear K1 K a0 l0 a1 l1;have K:=K2;clear K2;have a0:=K.out.rd 0 rfl;have l0:=K.out.ltp 0 rfl;have a1:=K.out.rd 1 rfl;have l1:=K.out.ltp 1 rfl)|((with_reducible refine at_alloc ?_);refine st_allocf K.out (fun _=>rfl) ?_;intro gw w1 K1;have K2:=Lib.hid K1;clear K1 K;(try clear a0 l0);(try clear a1 l1);(try clear a2 l2);have K:=K2;clear K2;have a0:=K.out.rd 0 rfl;have l0:=K.out.ltp 0 rfl;have a1:=K.out.rd 1 rfl;have l1:=K.out.ltp 1 rfl;have a2:=K.out.rd 2 rfl;have l2:=K.out.ltp 2 rfl)|((with_reducible refine at_store ?_);refine st_store 0 K.out rfl rfl rfl rfl ?_ ?_ ?_ ?_;(· kernel_rfl);(· simp);(· simp [Value.oneCell']);intro w1 K1;simp only [List.set,putL] at K1;have K2:=Lib.hid K1;clear K1 K;(try clear a0 l0);(try clear a1 l1);(try clear a2 l2);have K:=K2;clear K2;have a0:=K.out.rd 0 rfl;have l0:=K.out.ltp 0 rfl;have a1:=K.out.rd 1 rfl;have l1:=K.out.ltp 1 rfl;have a2:=K.out.rd 2 rfl;have l2:=K.out.ltp 2 rfl))
        have K1 : sat E _ (wordA gw wd :: evA ge e :: audA a c bc bs :: cellsA bc n f :: seenA bs m g :: L):=K.out
        clear K
        have K:=Lib.hid K1
        clear K1
        go_region_held3 (fun w'=>(∀ j,w'.cell? ⟨ge,j,none⟩ = e.v[j]?) ∧ (∀ j,w'.cell? ⟨a,j,none⟩ = (audV c bc bs)[j]?) ∧ (Instr.lookup 125 (.map (some bs)) (.agg #[.int .i64 e.who,.int .i64 slot]) true).run Tryz.prog w' = .ok (.tuple #[.int .i64 gn,.bool true]) w') ((refine seenS (E:=E) (gw:=gw) (n:=n) (m:=m) (f:=f) (g:=g) (x:=wd) (M:=L) (gk:=some gn) ?_ HE.out HS.out HG.out;exact (by repeat (with_reducible first|exact K.out|apply sat.alloc_any|apply sat.drew|apply sat.drewN)))) (fail)
        clear ‹_ ∧ _ ∧ Sem.run _ _ _ = _›
        have K1 : sat E _ _:=K.out.drew
        clear K a0 l0 a1 l1 a2 l2
        have K:=Lib.hid K1
        clear K1
        have a0:=K.out.rd 0 rfl
        have a1:=K.out.rd 1 rfl
        have a2:=K.out.rd 2 rfl
        go_wp2_with fail
        refine wp_region_noPanic ?_
        refine wp_region_held_drew (S:=(fun w'=>(∀ j,w'.cell? ⟨gw,j,none⟩ = (wordL wd)[j]?) ∧ (∀ j,w'.cell? ⟨ge,j,none⟩ = e.v[j]?) ∧ (∀ j,w'.cell? ⟨a,j,none⟩ = (audV c bc bs)[j]?) ∧ (Instr.lookup 124 (.map (some bc)) (.int .i64 (c.hazard e.who)) false).run Tryz.prog w' = .ok (.int .u64 ((f (.int .i64 (c.hazard e.who))).getD 0)) w')) (by kernel_rfl) ?_ (fun hHeld=>?_)
        · ((try dsimp only);(refine cellS (E:=E) (m:=0) (n:=n) (f:=f) (x:=wd) (e:=e) (c:=c) (M:=seenA bs m g :: L) ?_ HH.out;exact (by repeat (with_reducible first|exact K.out|apply sat.alloc_any|apply sat.drew|apply sat.drewN))))
        refine tk 0 (some 29) ?_
        try simp only[Act.put,p0,p1,p2]
        refine tk 1 (some 30) ?_
        try simp only[Act.put,p0,p1,p2]
        refine tk 2 (some 31) ?_
        try simp only[Act.put,p0,p1,p2]
        refine tk 3 (some 32) ?_
        try simp only[Act.put,p0,p1,p2]
        refine tk 4 (some 33) ?_
        try simp only[Act.put,p0,p1,p2]
        refine tk 5 (some 34) ?_
        try simp only[Act.put,p0,p1,p2]
        refine tk 6 (some 35) ?_
        try simp only[Act.put,p0,p1,p2]
        refine tk 7 (some 36) ?_
        try simp only[Act.put,p0,p1,p2]
        refine tk 8 (some 37) ?_
        try simp only[Act.put,p0,p1,p2]
        refine tk 9 (some 38) ?_
        try simp only[Act.put,p0,p1,p2]
        refine tk 10 (some 39) ?_
        try simp only[Act.put,p0,p1,p2]
        refine tk 11 (some 40) ?_
        try simp only[Act.put,p0,p1,p2]
        refine tk 12 (some 41) ?_
        try simp only[Act.put,p0,p1,p2]
        refine tk 13 (some 42) ?_
        try simp only[Act.put,p0,p1,p2]
        refine tk 14 (some 43) ?_
        try simp only[Act.put,p0,p1,p2]
        refine tk 15 (some 44) ?_
        try simp only[Act.put,p0,p1,p2]
        refine tk 16 (some 45) ?_
        try simp only[Act.put,p0,p1,p2]
        refine tk 17 (some 46) ?_
        try simp only[Act.put,p0,p1,p2]
        refine tk 20 (some 49) ?_
        try simp only[Act.put,p0,p1,p2]
        refine tk 21 (some 50) ?_
        try simp only[Act.put,p0,p1,p2]
        refine tk 22 (some 51) ?_
        try simp only[Act.put,p0,p1,p2]
        refine wpAnyH_ready (rs:=[18]) (by kernel_rfl) (by simp) ?_
        refine AllReadyH.cons (o:=_) rfl (fun kC hkC=>?_) AllReadyH.nil
        go_simp
        (first|(go_at_call 96;(with_reducible refine ((HZ _).out).mono ?_);rintro e w1 ⟨rfl,hb⟩;have K1:=sat.grown (by repeat (with_reducible first|exact K.out|apply sat.alloc_any|apply sat.drew|apply sat.drewN)) hb;clear hb;have K2:=Lib.hid K1;clear K1 K;(try clear a0 l0);(try clear a1 l1);(try clear a2 l2);have K:=K2;clear K2;have a0:=K.out.rd 0 rfl;have l0:=K.out.ltp 0 rfl;have a1:=K.out.rd 1 rfl;have l1:=K.out.ltp 1 rfl;have a2:=K.out.rd 2 rfl;have l2:=K.out.ltp 2 rfl))
        refine shown hkC _ _ (by (try dsimp only);(refine cellS (E:=E) (m:=0) (n:=n) (f:=f) (x:=wd) (e:=e) (c:=c) (M:=seenA bs m g :: L) ?_ HH.out;exact (by repeat (with_reducible first|exact K.out|apply sat.alloc_any|apply sat.drew|apply sat.drewN)))) ?_;clear hkC kC hHeld;intro hHeld
        try simp only[Act.put,p0,p1,p2]
        refine tk 19 (some 48) ?_
        try simp only[Act.put,p0,p1,p2]
        refine tk 23 (some 52) ?_
        try simp only[Act.put,p0,p1,p2]
        refine tk 24 (some 53) ?_
        try simp only[Act.put,p0,p1,p2]
        refine tk 25 (some 6) ?_
        try simp only[Act.put,p0,p1,p2]
        refine wpAnyH_done (by kernel_rfl) (NoPanic.normal ?_) _
        go_wp2
        go_ret
        exact ⟨ret_b (by simp_all),(show sat E _ _ from (by repeat (with_reducible first|exact K.out|apply sat.alloc_any|apply sat.drew|apply sat.drewN))).drop.drop⟩
      · have q2 : (gn == wd.gen) = false:=by simpa using q1
        clear q1
        go_enter Tryz.func88,Tryz.ntmps88
        go_wp2_with (first|((with_reducible refine at_box ?_);refine st_boxf K.out rfl rfl (fun _=>rfl) ?_;intro ge w1 K1;have K2:=Lib.hid K1;clear K1 K;(try clear a0 l0);(try clear a1 l1);(try clear a2 l2);have K:=K2;clear K2;have a0:=K.out.rd 0 rfl;have l0:=K.out.ltp 0 rfl;have a1:=K.out.rd 1 rfl;have l1:=K.out.ltp 1 rfl)|(go_at_call 113;(with_reducible refine (AW _ _ K.out.rot3).out.mono ?_);rintro r w1 ⟨rfl,K1⟩;replace K1:=K1.unrot3;have K2:=Lib.hid K1;clear K1 K a0 l0 a1 l1;have K:=K2;clear K2;have a0:=K.out.rd 0 rfl;have l0:=K.out.ltp 0 rfl;have a1:=K.out.rd 1 rfl;have l1:=K.out.ltp 1 rfl)|((with_reducible refine at_alloc ?_);refine st_allocf K.out (fun _=>rfl) ?_;intro gw w1 K1;have K2:=Lib.hid K1;clear K1 K;(try clear a0 l0);(try clear a1 l1);(try clear a2 l2);have K:=K2;clear K2;have a0:=K.out.rd 0 rfl;have l0:=K.out.ltp 0 rfl;have a1:=K.out.rd 1 rfl;have l1:=K.out.ltp 1 rfl;have a2:=K.out.rd 2 rfl;have l2:=K.out.ltp 2 rfl)|((with_reducible refine at_store ?_);refine st_store 0 K.out rfl rfl rfl rfl ?_ ?_ ?_ ?_;(· kernel_rfl);(· simp);(· simp [Value.oneCell']);intro w1 K1;simp only [List.set,putL] at K1;have K2:=Lib.hid K1;clear K1 K;(try clear a0 l0);(try clear a1 l1);(try clear a2 l2);have K:=K2;clear K2;have a0:=K.out.rd 0 rfl;have l0:=K.out.ltp 0 rfl;have a1:=K.out.rd 1 rfl;have l1:=K.out.ltp 1 rfl;have a2:=K.out.rd 2 rfl;have l2:=K.out.ltp 2 rfl))
        have K1 : sat E _ (wordA gw wd :: evA ge e :: audA a c bc bs :: cellsA bc n f :: seenA bs m g :: L):=K.out
        clear K
        have K:=Lib.hid K1
        clear K1
        go_region_held3 (fun w'=>(∀ j,w'.cell? ⟨ge,j,none⟩ = e.v[j]?) ∧ (∀ j,w'.cell? ⟨a,j,none⟩ = (audV c bc bs)[j]?) ∧ (Instr.lookup 125 (.map (some bs)) (.agg #[.int .i64 e.who,.int .i64 slot]) true).run Tryz.prog w' = .ok (.tuple #[.int .i64 gn,.bool true]) w') ((refine seenS (E:=E) (gw:=gw) (n:=n) (m:=m) (f:=f) (g:=g) (x:=wd) (M:=L) (gk:=some gn) ?_ HE.out HS.out HG.out;exact (by repeat (with_reducible first|exact K.out|apply sat.alloc_any|apply sat.drew|apply sat.drewN)))) (fail)
        clear ‹_ ∧ _ ∧ Sem.run _ _ _ = _›
        have K1 : sat E _ _:=K.out.drew
        clear K a0 l0 a1 l1 a2 l2
        have K:=Lib.hid K1
        clear K1
        have a0:=K.out.rd 0 rfl
        have a1:=K.out.rd 1 rfl
        have a2:=K.out.rd 2 rfl
        go_wp2_with fail
        refine wp_region_noPanic ?_
        refine wp_region_held_drew (S:=(fun w'=>(∀ j,w'.cell? ⟨gw,j,none⟩ = (wordL wd)[j]?) ∧ (∀ j,w'.cell? ⟨ge,j,none⟩ = e.v[j]?) ∧ (∀ j,w'.cell? ⟨a,j,none⟩ = (audV c bc bs)[j]?) ∧ (Instr.lookup 124 (.map (some bc)) (.int .i64 (c.hazard e.who)) false).run Tryz.prog w' = .ok (.int .u64 ((f (.int .i64 (c.hazard e.who))).getD 0)) w')) (by kernel_rfl) ?_ (fun hHeld=>?_)
        · ((try dsimp only);(refine cellS (E:=E) (m:=0) (n:=n) (f:=f) (x:=wd) (e:=e) (c:=c) (M:=seenA bs m g :: L) ?_ HH.out;exact (by repeat (with_reducible first|exact K.out|apply sat.alloc_any|apply sat.drew|apply sat.drewN))))
        refine tk 0 (some 29) ?_
        try simp only[Act.put,p0,p1,p2]
        refine tk 1 (some 30) ?_
        try simp only[Act.put,p0,p1,p2]
        refine tk 2 (some 31) ?_
        try simp only[Act.put,p0,p1,p2]
        refine tk 3 (some 32) ?_
        try simp only[Act.put,p0,p1,p2]
        refine tk 4 (some 33) ?_
        try simp only[Act.put,p0,p1,p2]
        refine tk 5 (some 34) ?_
        try simp only[Act.put,p0,p1,p2]
        refine tk 6 (some 35) ?_
        try simp only[Act.put,p0,p1,p2]
        refine tk 7 (some 36) ?_
        try simp only[Act.put,p0,p1,p2]
        refine sk 8 (some 37) ?_
        try simp only[Act.put,p0,p1,p2]
        refine sk 9 (some 38) ?_
        try simp only[Act.put,p0,p1,p2]
        refine sk 10 (some 39) ?_
        try simp only[Act.put,p0,p1,p2]
        refine sk 11 (some 40) ?_
        try simp only[Act.put,p0,p1,p2]
        refine sk 12 (some 41) ?_
        try simp only[Act.put,p0,p1,p2]
        refine sk 13 (some 42) ?_
        try simp only[Act.put,p0,p1,p2]
        refine sk 14 (some 43) ?_
        try simp only[Act.put,p0,p1,p2]
        refine sk 15 (some 44) ?_
        try simp only[Act.put,p0,p1,p2]
        refine sk 16 (some 45) ?_
        try simp only[Act.put,p0,p1,p2]
        refine sk 17 (some 46) ?_
        try simp only[Act.put,p0,p1,p2]
        refine sk 18 (some 47) ?_
        try simp only[Act.put,p0,p1,p2]
        refine sk 19 (some 48) ?_
        try simp only[Act.put,p0,p1,p2]
        refine sk 20 (some 49) ?_
        try simp only[Act.put,p0,p1,p2]
        refine sk 21 (some 50) ?_
        try simp only[Act.put,p0,p1,p2]
        refine sk 22 (some 51) ?_
        try simp only[Act.put,p0,p1,p2]
        refine sk 23 (some 52) ?_
        try simp only[Act.put,p0,p1,p2]
        refine tk 24 (some 53) ?_
        try simp only[Act.put,p0,p1,p2]
        refine tk 25 (some 6) ?_
        try simp only[Act.put,p0,p1,p2]
        refine wpAnyH_done (by kernel_rfl) (NoPanic.normal ?_) _
        go_wp2
        go_ret
        exact ⟨ret_b (by simp_all),(show sat E _ _ from (by repeat (with_reducible first|exact K.out|apply sat.alloc_any|apply sat.drew|apply sat.drewN))).drop.drop⟩
  rw [if_neg o0]
  have t0 : (e.op == 0) = false:=by simpa using o0
  clear o0
  by_cases o1 : e.op = 1
  · have t1 : (e.op == 1) = true:=by simpa using o1
    rw [if_pos o1]
    clear o1
    by_cases q3 : e.who = ownerM c slot
    · have q4 : (e.who == ownerM c slot) = true:=by simpa using q3
      clear q3
      go_enter Tryz.func88,Tryz.ntmps88
      go_wp2_with (first|((with_reducible refine at_box ?_);refine st_boxf K.out rfl rfl (fun _=>rfl) ?_;intro ge w1 K1;have K2:=Lib.hid K1;clear K1 K;(try clear a0 l0);(try clear a1 l1);(try clear a2 l2);have K:=K2;clear K2;have a0:=K.out.rd 0 rfl;have l0:=K.out.ltp 0 rfl;have a1:=K.out.rd 1 rfl;have l1:=K.out.ltp 1 rfl)|(go_at_call 113;(with_reducible refine (AW _ _ K.out.rot3).out.mono ?_);rintro r w1 ⟨rfl,K1⟩;replace K1:=K1.unrot3;have K2:=Lib.hid K1;clear K1 K a0 l0 a1 l1;have K:=K2;clear K2;have a0:=K.out.rd 0 rfl;have l0:=K.out.ltp 0 rfl;have a1:=K.out.rd 1 rfl;have l1:=K.out.ltp 1 rfl)|((with_reducible refine at_alloc ?_);refine st_allocf K.out (fun _=>rfl) ?_;intro gw w1 K1;have K2:=Lib.hid K1;clear K1 K;(try clear a0 l0);(try clear a1 l1);(try clear a2 l2);have K:=K2;clear K2;have a0:=K.out.rd 0 rfl;have l0:=K.out.ltp 0 rfl;have a1:=K.out.rd 1 rfl;have l1:=K.out.ltp 1 rfl;have a2:=K.out.rd 2 rfl;have l2:=K.out.ltp 2 rfl)|((with_reducible refine at_store ?_);refine st_store 0 K.out rfl rfl rfl rfl ?_ ?_ ?_ ?_;(· kernel_rfl);(· simp);(· simp [Value.oneCell']);intro w1 K1;simp only [List.set,putL] at K1;have K2:=Lib.hid K1;clear K1 K;(try clear a0 l0);(try clear a1 l1);(try clear a2 l2);have K:=K2;clear K2;have a0:=K.out.rd 0 rfl;have l0:=K.out.ltp 0 rfl;have a1:=K.out.rd 1 rfl;have l1:=K.out.ltp 1 rfl;have a2:=K.out.rd 2 rfl;have l2:=K.out.ltp 2 rfl))
      have K1 : sat E _ (wordA gw wd :: evA ge e :: audA a c bc bs :: cellsA bc n f :: seenA bs m g :: L):=K.out
      clear K
      have K:=Lib.hid K1
      clear K1
      refine wp_region_noPanic ?_
      refine wp_region_held_drew (S:=(fun w'=>(∀ j,w'.cell? ⟨gw,j,none⟩ = (wordL wd)[j]?) ∧ (∀ j,w'.cell? ⟨ge,j,none⟩ = e.v[j]?) ∧ (∀ j,w'.cell? ⟨a,j,none⟩ = (audV c bc bs)[j]?))) (by kernel_rfl) ?_ (fun hHeld=>?_)
      · ((try dsimp only);(refine cellT (E:=E) (c:=c) (e:=e) (x:=wd) (M:=cellsA bc n f :: seenA bs m g :: L) ?_;exact (by repeat (with_reducible first|exact K.out|apply sat.alloc_any|apply sat.drew|apply sat.drewN))))
      refine tk 0 (some 56) ?_
      try simp only[Act.put,p0,p1,p2]
      refine tk 1 (some 57) ?_
      try simp only[Act.put,p0,p1,p2]
      refine tk 2 (some 58) ?_
      try simp only[Act.put,p0,p1,p2]
      refine tk 3 (some 59) ?_
      try simp only[Act.put,p0,p1,p2]
      refine tk 4 (some 60) ?_
      try simp only[Act.put,p0,p1,p2]
      refine tk 5 (some 61) ?_
      try simp only[Act.put,p0,p1,p2]
      refine tk 6 (some 62) ?_
      try simp only[Act.put,p0,p1,p2]
      refine wpAnyH_ready (rs:=[7]) (by kernel_rfl) (by simp) ?_
      refine AllReadyH.cons (o:=_) rfl (fun kC hkC=>?_) AllReadyH.nil
      go_simp
      (first|(go_at_call 112;(with_reducible refine ((OW _).out).mono ?_);rintro e w1 ⟨rfl,hb⟩;have K1:=sat.grown (by repeat (with_reducible first|exact K.out|apply sat.alloc_any|apply sat.drew|apply sat.drewN)) hb;clear hb;have K2:=Lib.hid K1;clear K1 K;(try clear a0 l0);(try clear a1 l1);(try clear a2 l2);have K:=K2;clear K2;have a0:=K.out.rd 0 rfl;have l0:=K.out.ltp 0 rfl;have a1:=K.out.rd 1 rfl;have l1:=K.out.ltp 1 rfl;have a2:=K.out.rd 2 rfl;have l2:=K.out.ltp 2 rfl))
      refine shown hkC _ _ (by (try dsimp only);(refine cellT (E:=E) (c:=c) (e:=e) (x:=wd) (M:=cellsA bc n f :: seenA bs m g :: L) ?_;exact (by repeat (with_reducible first|exact K.out|apply sat.alloc_any|apply sat.drew|apply sat.drewN)))) ?_;clear hkC kC hHeld;intro hHeld
      try simp only[Act.put,p0,p1,p2]
      refine tk 8 (some 64) ?_
      try simp only[Act.put,p0,p1,p2]
      refine tk 9 (some 65) ?_
      try simp only[Act.put,p0,p1,p2]
      refine tk 10 (some 66) ?_
      try simp only[Act.put,p0,p1,p2]
      refine tk 11 (some 67) ?_
      try simp only[Act.put,p0,p1,p2]
      refine tk 12 (some 68) ?_
      try simp only[Act.put,p0,p1,p2]
      refine tk 13 (some 69) ?_
      try simp only[Act.put,p0,p1,p2]
      refine tk 14 (some 6) ?_
      try simp only[Act.put,p0,p1,p2]
      refine wpAnyH_done (by kernel_rfl) (NoPanic.normal ?_) _
      go_wp2
      go_ret
      exact ⟨ret_b (by simp_all),(show sat E _ _ from (by repeat (with_reducible first|exact K.out|apply sat.alloc_any|apply sat.drew|apply sat.drewN))).drop.drop⟩
    · have q4 : (e.who == ownerM c slot) = false:=by simpa using q3
      clear q3
      go_enter Tryz.func88,Tryz.ntmps88
      go_wp2_with (first|((with_reducible refine at_box ?_);refine st_boxf K.out rfl rfl (fun _=>rfl) ?_;intro ge w1 K1;have K2:=Lib.hid K1;clear K1 K;(try clear a0 l0);(try clear a1 l1);(try clear a2 l2);have K:=K2;clear K2;have a0:=K.out.rd 0 rfl;have l0:=K.out.ltp 0 rfl;have a1:=K.out.rd 1 rfl;have l1:=K.out.ltp 1 rfl)|(go_at_call 113;(with_reducible refine (AW _ _ K.out.rot3).out.mono ?_);rintro r w1 ⟨rfl,K1⟩;replace K1:=K1.unrot3;have K2:=Lib.hid K1;clear K1 K a0 l0 a1 l1;have K:=K2;clear K2;have a0:=K.out.rd 0 rfl;have l0:=K.out.ltp 0 rfl;have a1:=K.out.rd 1 rfl;have l1:=K.out.ltp 1 rfl)|((with_reducible refine at_alloc ?_);refine st_allocf K.out (fun _=>rfl) ?_;intro gw w1 K1;have K2:=Lib.hid K1;clear K1 K;(try clear a0 l0);(try clear a1 l1);(try clear a2 l2);have K:=K2;clear K2;have a0:=K.out.rd 0 rfl;have l0:=K.out.ltp 0 rfl;have a1:=K.out.rd 1 rfl;have l1:=K.out.ltp 1 rfl;have a2:=K.out.rd 2 rfl;have l2:=K.out.ltp 2 rfl)|((with_reducible refine at_store ?_);refine st_store 0 K.out rfl rfl rfl rfl ?_ ?_ ?_ ?_;(· kernel_rfl);(· simp);(· simp [Value.oneCell']);intro w1 K1;simp only [List.set,putL] at K1;have K2:=Lib.hid K1;clear K1 K;(try clear a0 l0);(try clear a1 l1);(try clear a2 l2);have K:=K2;clear K2;have a0:=K.out.rd 0 rfl;have l0:=K.out.ltp 0 rfl;have a1:=K.out.rd 1 rfl;have l1:=K.out.ltp 1 rfl;have a2:=K.out.rd 2 rfl;have l2:=K.out.ltp 2 rfl))
      have K1 : sat E _ (wordA gw wd :: evA ge e :: audA a c bc bs :: cellsA bc n f :: seenA bs m g :: L):=K.out
      clear K
      have K:=Lib.hid K1
      clear K1
      refine wp_region_noPanic ?_
      refine wp_region_held_drew (S:=(fun w'=>(∀ j,w'.cell? ⟨gw,j,none⟩ = (wordL wd)[j]?) ∧ (∀ j,w'.cell? ⟨ge,j,none⟩ = e.v[j]?) ∧ (∀ j,w'.cell? ⟨a,j,none⟩ = (audV c bc bs)[j]?))) (by kernel_rfl) ?_ (fun hHeld=>?_)
      · ((try dsimp only);(refine cellT (E:=E) (c:=c) (e:=e) (x:=wd) (M:=cellsA bc n f :: seenA bs m g :: L) ?_;exact (by repeat (with_reducible first|exact K.out|apply sat.alloc_any|apply sat.drew|apply sat.drewN))))
      refine tk 0 (some 56) ?_
      try simp only[Act.put,p0,p1,p2]
      refine tk 1 (some 57) ?_
      try simp only[Act.put,p0,p1,p2]
      refine tk 2 (some 58) ?_
      try simp only[Act.put,p0,p1,p2]
      refine tk 3 (some 59) ?_
      try simp only[Act.put,p0,p1,p2]
      refine tk 4 (some 60) ?_
      try simp only[Act.put,p0,p1,p2]
      refine tk 5 (some 61) ?_
      try simp only[Act.put,p0,p1,p2]
      refine tk 6 (some 62) ?_
      try simp only[Act.put,p0,p1,p2]
      refine wpAnyH_ready (rs:=[7]) (by kernel_rfl) (by simp) ?_
      refine AllReadyH.cons (o:=_) rfl (fun kC hkC=>?_) AllReadyH.nil
      go_simp
      (first|(go_at_call 112;(with_reducible refine ((OW _).out).mono ?_);rintro e w1 ⟨rfl,hb⟩;have K1:=sat.grown (by repeat (with_reducible first|exact K.out|apply sat.alloc_any|apply sat.drew|apply sat.drewN)) hb;clear hb;have K2:=Lib.hid K1;clear K1 K;(try clear a0 l0);(try clear a1 l1);(try clear a2 l2);have K:=K2;clear K2;have a0:=K.out.rd 0 rfl;have l0:=K.out.ltp 0 rfl;have a1:=K.out.rd 1 rfl;have l1:=K.out.ltp 1 rfl;have a2:=K.out.rd 2 rfl;have l2:=K.out.ltp 2 rfl))
      refine shown hkC _ _ (by (try dsimp only);(refine cellT (E:=E) (c:=c) (e:=e) (x:=wd) (M:=cellsA bc n f :: seenA bs m g :: L) ?_;exact (by repeat (with_reducible first|exact K.out|apply sat.alloc_any|apply sat.drew|apply sat.drewN)))) ?_;clear hkC kC hHeld;intro hHeld
      try simp only[Act.put,p0,p1,p2]
      refine tk 8 (some 64) ?_
      try simp only[Act.put,p0,p1,p2]
      refine tk 9 (some 65) ?_
      try simp only[Act.put,p0,p1,p2]
      refine sk 10 (some 66) ?_
      try simp only[Act.put,p0,p1,p2]
      refine sk 11 (some 67) ?_
      try simp only[Act.put,p0,p1,p2]
      refine sk 12 (some 68) ?_
      try simp only[Act.put,p0,p1,p2]
      refine tk 13 (some 69) ?_
      try simp only[Act.put,p0,p1,p2]
      refine tk 14 (some 6) ?_
      try simp only[Act.put,p0,p1,p2]
      refine wpAnyH_done (by kernel_rfl) (NoPanic.normal ?_) _
      go_wp2
      go_ret
      exact ⟨ret_b (by simp_all),(show sat E _ _ from (by repeat (with_reducible first|exact K.out|apply sat.alloc_any|apply sat.drew|apply sat.drewN))).drop.drop⟩
  · have t1 : (e.op == 1) = false:=by simpa using o1
    rw [if_neg o1]
    clear o1
    go_enter Tryz.func88,Tryz.ntmps88
    go_wp2_with (first|((with_reducible refine at_box ?_);refine st_boxf K.out rfl rfl (fun _=>rfl) ?_;intro ge w1 K1;have K2:=Lib.hid K1;clear K1 K;(try clear a0 l0);(try clear a1 l1);(try clear a2 l2);have K:=K2;clear K2;have a0:=K.out.rd 0 rfl;have l0:=K.out.ltp 0 rfl;have a1:=K.out.rd 1 rfl;have l1:=K.out.ltp 1 rfl)|(go_at_call 113;(with_reducible refine (AW _ _ K.out.rot3).out.mono ?_);rintro r w1 ⟨rfl,K1⟩;replace K1:=K1.unrot3;have K2:=Lib.hid K1;clear K1 K a0 l0 a1 l1;have K:=K2;clear K2;have a0:=K.out.rd 0 rfl;have l0:=K.out.ltp 0 rfl;have a1:=K.out.rd 1 rfl;have l1:=K.out.ltp 1 rfl)|((with_reducible refine at_alloc ?_);refine st_allocf K.out (fun _=>rfl) ?_;intro gw w1 K1;have K2:=Lib.hid K1;clear K1 K;(try clear a0 l0);(try clear a1 l1);(try clear a2 l2);have K:=K2;clear K2;have a0:=K.out.rd 0 rfl;have l0:=K.out.ltp 0 rfl;have a1:=K.out.rd 1 rfl;have l1:=K.out.ltp 1 rfl;have a2:=K.out.rd 2 rfl;have l2:=K.out.ltp 2 rfl)|((with_reducible refine at_store ?_);refine st_store 0 K.out rfl rfl rfl rfl ?_ ?_ ?_ ?_;(· kernel_rfl);(· simp);(· simp [Value.oneCell']);intro w1 K1;simp only [List.set,putL] at K1;have K2:=Lib.hid K1;clear K1 K;(try clear a0 l0);(try clear a1 l1);(try clear a2 l2);have K:=K2;clear K2;have a0:=K.out.rd 0 rfl;have l0:=K.out.ltp 0 rfl;have a1:=K.out.rd 1 rfl;have l1:=K.out.ltp 1 rfl;have a2:=K.out.rd 2 rfl;have l2:=K.out.ltp 2 rfl))
    have K1 : sat E _ (wordA gw wd :: evA ge e :: audA a c bc bs :: cellsA bc n f :: seenA bs m g :: L):=K.out
    clear K
    have K:=Lib.hid K1
    clear K1
    go_ret
    exact ⟨rfl,K.out.drop.drop⟩
end
end Go.Proofs.YtegdhojhnmgjgaaGreat
namespace Go.Proofs.YtegdhojhnmgjgaaGreat
open Go.RowKit Go.SepYtegdhojhnmgjgaaGreat Go.Maps
set_option maxRecDepth 100000
set_option maxHeartbeats 4000000
section
variable {E w : World} {L : List SA}
theorem ofNumber_calls (c : ConfM) (a bc bs : Nat) (t : Int) (e : Ev) (he : Ev.wf e)
    (h : sat E w (audA a c bc bs :: L)) :
    Calls Tryz.prog 89 #[.pointer (some ⟨a,0,none⟩),.agg e.v.toArray,.int .i64 t] w fun r w'=>r = .returned (.bool (numberB c e t)) ∧ sat E w' (audA a c bc bs :: L):=by
  obtain ⟨e1,e2,e3,e4⟩:=he
  obtain ⟨e30,e31⟩:=e3
  have K:=Lib.hid h
  have a0:=h.rd 0 rfl
  have l0:=h.ltp 0 rfl
  clear h
  have hw : IntKind.u64.wrap (e.old + 1) = u64M (e.old + 1):=by rw [IntKind.wrap_u64];rfl
  unfold numberB
  generalize u64M (e.old + 1) = nx at *
  by_cases s0 : c.src = 0
  · have t0 : (c.src == 0) = true:=by simpa using s0
    rw [if_pos s0]
    clear s0
    go_enter Tryz.func89,Tryz.ntmps89
    go_wp2_with (first|((with_reducible refine at_box ?_);refine st_boxf K.out rfl rfl (fun _=>rfl) ?_;intro ge w1 K1;have K2:=Lib.hid K1;clear K1 K;(try clear a0 l0);(try clear a1 l1);(try clear a2 l2);have K:=K2;clear K2;have a0:=K.out.rd 0 rfl;have l0:=K.out.ltp 0 rfl;have a1:=K.out.rd 1 rfl;have l1:=K.out.ltp 1 rfl))
    all_goals (go_ret;exact ⟨ret_b (by simp_all),K.out.drop⟩)
  rw [if_neg s0]
  have t0 : (c.src == 0) = false:=by simpa using s0
  clear s0
  by_cases s1 : c.src = 1
  · have t1 : (c.src == 1) = true:=by simpa using s1
    rw [if_pos s1]
    clear s1
    go_enter Tryz.func89,Tryz.ntmps89
    go_wp2_with (first|((with_reducible refine at_box ?_);refine st_boxf K.out rfl rfl (fun _=>rfl) ?_;intro ge w1 K1;have K2:=Lib.hid K1;clear K1 K;(try clear a0 l0);(try clear a1 l1);(try clear a2 l2);have K:=K2;clear K2;have a0:=K.out.rd 0 rfl;have l0:=K.out.ltp 0 rfl;have a1:=K.out.rd 1 rfl;have l1:=K.out.ltp 1 rfl))
    all_goals (go_ret;exact ⟨ret_b (by simp_all),K.out.drop⟩)
  rw [if_neg s1]
  have t1 : (c.src == 1) = false:=by simpa using s1
  clear s1
  by_cases s2 : c.src = 2
  · have t2 : (c.src == 2) = true:=by simpa using s2
    rw [if_pos s2]
    clear s2
    go_enter Tryz.func89,Tryz.ntmps89
    go_wp2_with (first|((with_reducible refine at_box ?_);refine st_boxf K.out rfl rfl (fun _=>rfl) ?_;intro ge w1 K1;have K2:=Lib.hid K1;clear K1 K;(try clear a0 l0);(try clear a1 l1);(try clear a2 l2);have K:=K2;clear K2;have a0:=K.out.rd 0 rfl;have l0:=K.out.ltp 0 rfl;have a1:=K.out.rd 1 rfl;have l1:=K.out.ltp 1 rfl))
    all_goals (go_ret;exact ⟨ret_b (by simp_all),K.out.drop⟩)
  rw [if_neg s2]
  have t2 : (c.src == 2) = false:=by simpa using s2
  clear s2
  go_enter Tryz.func89,Tryz.ntmps89
  go_wp2_with (first|((with_reducible refine at_box ?_);refine st_boxf K.out rfl rfl (fun _=>rfl) ?_;intro ge w1 K1;have K2:=Lib.hid K1;clear K1 K;(try clear a0 l0);(try clear a1 l1);(try clear a2 l2);have K:=K2;clear K2;have a0:=K.out.rd 0 rfl;have l0:=K.out.ltp 0 rfl;have a1:=K.out.rd 1 rfl;have l1:=K.out.ltp 1 rfl))
  all_goals (go_ret;exact ⟨ret_b (by simp_all),K.out.drop⟩)
end
end Go.Proofs.YtegdhojhnmgjgaaGreat
/- Whether a cell may be touched so, as the auditor finds it. Conditions: a Right layout; numbers within their kinds. -/
namespace Go.Proofs.YtegdhojhnmgjgaaGreat
open Go.RowKit Go.SepYtegdhojhnmgjgaaGreat Go.Maps
set_option maxRecDepth 100000
set_option maxHeartbeats 4000000
theorem kind_cases (c : ConfM) (hc : c.ok) (cell : Int) : (∃ n,kindM c cell = (0,n)) ∨ (kindM c cell = (1,cell) ∧ 0 ≤ cell ∧ cell < c.all) ∨ (∃ n,kindM c cell = (2,n) ∧ 0 ≤ n ∧ n < c.all) ∨ (∃ n,kindM c cell = (3,n)) ∨ (∃ n,kindM c cell = (4,n)):=by
  unfold kindM
  split
  · exact .inl ⟨_,rfl⟩
  · rename_i h1
    split
    · exact .inr (.inl ⟨rfl,by omega,by assumption⟩)
    · split
      · exact .inr (.inr (.inl ⟨_,rfl,by omega,by omega⟩))
      · split
        · exact .inr (.inr (.inr (.inl ⟨_,rfl⟩)))
        · exact .inr (.inr (.inr (.inr ⟨_,rfl⟩)))
/-- What the auditor notes of a word that was loaded. -/
noncomputable def seenUp (c : ConfM) (e : Ev) (g : Lit → Option Int) : Lit → Option Int:=if (0 ≤ e.who ∧ e.who < c.th) ∧ (kindM c e.cell).1 = 1 ∧ e.op = 0 then updI g (pairKey e.who e.cell) (unpack e.old).gen else g
abbrev lastF (f : Lit → Option Int) : Int → Int:=fun i=>(f (.int .i64 i)).getD 0
section
variable {E w : World} {L : List SA}
theorem mayS {ge a bc bs : Nat} {e : Ev} {c : ConfM} {M : List SA} (h : sat E w (evA ge e :: audA a c bc bs :: M)) : (∀ j,w.cell? ⟨ge,j,none⟩ = e.v[j]?) ∧ (∀ j,w.cell? ⟨a,j,none⟩ = (audV c bc bs)[j]?):=⟨h.rd 0 rfl,h.rd 1 rfl⟩
theorem mapd_calls (c : ConfM) (hc : c.ok) (a bc bs n m : Nat) (f g : Lit → Option Int) (hm : m ≤ 1000000) (e : Ev) (he : Ev.wf e)
    (hf : ∀ i,0 ≤ (f (.int .i64 i)).getD 0 ∧ (f (.int .i64 i)).getD 0 < 18446744073709551616)
    (h : sat E w (audA a c bc bs :: cellsA bc n f :: seenA bs m g :: L)) :
    Calls Tryz.prog 65 #[.pointer (some ⟨a,0,none⟩),.agg e.v.toArray] w fun r w'=>r = .returned (.bool (mayM c (lastF f) (fun s=>g (pairKey e.who s)) e)) ∧ sat E w' (audA a c bc bs :: cellsA bc n f :: seenA bs (m + 1) (seenUp c e g) :: L):=by
  have K:=Lib.hid h
  have a0:=h.rd 0 rfl
  have l0:=h.ltp 0 rfl
  have MM:=Lib.hid (show ∀ (w : World) (A : SA),sat E w (A :: audA a c bc bs :: cellsA bc n f :: seenA bs m g :: L) → sat E w (audA a c bc bs :: cellsA bc n f :: seenA bs (m + 1) g :: L) from fun _ _ h=>(((h.drop.pick 2 rfl).mapI_mono (Nat.le_succ m)).uncabA))
  clear h
  unfold mayM
  by_cases n1 : e.who < 0
  · have t1 : decide (e.who < 0) = true:=by simpa using n1
    rw [if_pos (.inl n1),show seenUp c e g = g from if_neg (by omega)]
    clear n1 hf
    go_enter Tryz.func65,Tryz.ntmps65
    go_wp2_with (first|((with_reducible refine at_box ?_);refine st_boxf K.out rfl rfl (fun _=>rfl) ?_;intro ge w1 K1;have K2:=Lib.hid K1;clear K1 K;(try clear a0 l0);(try clear a1 l1);(try clear a2 l2);have K:=K2;clear K2;have a0:=K.out.rd 0 rfl;have l0:=K.out.ltp 0 rfl;have a1:=K.out.rd 1 rfl;have l1:=K.out.ltp 1 rfl))
    refine wp_region_noPanic ?_
    refine wp_region_held_drew (S:=(fun w'=>(∀ j,w'.cell? ⟨ge,j,none⟩ = e.v[j]?) ∧ (∀ j,w'.cell? ⟨a,j,none⟩ = (audV c bc bs)[j]?))) (by kernel_rfl) ?_ (fun hHeld=>?_)
    · ((try dsimp only);(refine mayS (E:=E) (bs:=bs) (M:=cellsA bc n f :: seenA bs m g :: L) ?_;first|exact K.out|exact K.out.drew))
    refine tk 0 (some 7) ?_
    try simp only[Act.put,p0,p1,p2]
    refine tk 1 (some 8) ?_
    try simp only[Act.put,p0,p1,p2]
    refine tk 2 (some 9) ?_
    try simp only[Act.put,p0,p1,p2]
    refine tk 3 (some 10) ?_
    try simp only[Act.put,p0,p1,p2]
    refine sk 4 (some 11) ?_
    try simp only[Act.put,p0,p1,p2]
    refine sk 5 (some 12) ?_
    try simp only[Act.put,p0,p1,p2]
    refine sk 6 (some 13) ?_
    try simp only[Act.put,p0,p1,p2]
    refine sk 7 (some 14) ?_
    try simp only[Act.put,p0,p1,p2]
    refine sk 8 (some 15) ?_
    try simp only[Act.put,p0,p1,p2]
    refine sk 9 (some 16) ?_
    try simp only[Act.put,p0,p1,p2]
    refine sk 10 (some 17) ?_
    try simp only[Act.put,p0,p1,p2]
    refine sk 11 (some 18) ?_
    try simp only[Act.put,p0,p1,p2]
    refine tk 12 (some 19) ?_
    try simp only[Act.put,p0,p1,p2]
    refine wpAnyH_done (by kernel_rfl) (NoPanic.normal ?_) _
    go_wp2
    go_ret
    exact ⟨rfl,MM.out _ _ K.out.drew⟩
  by_cases n2 : c.th ≤ e.who
  · have t1 : decide (e.who < 0) = false:=by simpa using n1
    have t2 : decide (e.who ≥ c.th) = true:=by simpa using n2
    rw [if_pos (.inr n2),show seenUp c e g = g from if_neg (by omega)]
    clear n1 n2 hf
    go_enter Tryz.func65,Tryz.ntmps65
    go_wp2_with (first|((with_reducible refine at_box ?_);refine st_boxf K.out rfl rfl (fun _=>rfl) ?_;intro ge w1 K1;have K2:=Lib.hid K1;clear K1 K;(try clear a0 l0);(try clear a1 l1);(try clear a2 l2);have K:=K2;clear K2;have a0:=K.out.rd 0 rfl;have l0:=K.out.ltp 0 rfl;have a1:=K.out.rd 1 rfl;have l1:=K.out.ltp 1 rfl))
    refine wp_region_noPanic ?_
    refine wp_region_held_drew (S:=(fun w'=>(∀ j,w'.cell? ⟨ge,j,none⟩ = e.v[j]?) ∧ (∀ j,w'.cell? ⟨a,j,none⟩ = (audV c bc bs)[j]?))) (by kernel_rfl) ?_ (fun hHeld=>?_)
    · ((try dsimp only);(refine mayS (E:=E) (bs:=bs) (M:=cellsA bc n f :: seenA bs m g :: L) ?_;first|exact K.out|exact K.out.drew))
    refine tk 0 (some 7) ?_
    try simp only[Act.put,p0,p1,p2]
    refine tk 1 (some 8) ?_
    try simp only[Act.put,p0,p1,p2]
    refine tk 2 (some 9) ?_
    try simp only[Act.put,p0,p1,p2]
    refine tk 3 (some 10) ?_
    try simp only[Act.put,p0,p1,p2]
    refine tk 4 (some 11) ?_
    try simp only[Act.put,p0,p1,p2]
    refine tk 5 (some 12) ?_
    try simp only[Act.put,p0,p1,p2]
    refine tk 6 (some 13) ?_
    try simp only[Act.put,p0,p1,p2]
    refine tk 7 (some 14) ?_
    try simp only[Act.put,p0,p1,p2]
    refine tk 8 (some 15) ?_
    try simp only[Act.put,p0,p1,p2]
    refine tk 9 (some 16) ?_
    try simp only[Act.put,p0,p1,p2]
    refine tk 10 (some 17) ?_
    try simp only[Act.put,p0,p1,p2]
    refine tk 11 (some 18) ?_
    try simp only[Act.put,p0,p1,p2]
    refine tk 12 (some 19) ?_
    try simp only[Act.put,p0,p1,p2]
    refine wpAnyH_done (by kernel_rfl) (NoPanic.normal ?_) _
    go_wp2
    go_ret
    exact ⟨rfl,MM.out _ _ K.out.drew⟩
  rw [if_neg (by omega)]
  have t1 : decide (e.who < 0) = false:=by simpa using n1
  have t2 : decide (e.who ≥ c.th) = false:=by simpa using n2
  have hw0 : 0 ≤ e.who:=by omega
  have hw1 : e.who < c.th:=by omega
  have KC:=fun w'=>Lib.hid (kind_calls c w' hc e.cell)
  rcases kind_cases c hc e.cell with ⟨k,hk⟩|⟨hk,k0,k1⟩|⟨k,hk,k0,k1⟩|⟨k,hk⟩|⟨k,hk⟩
  · rw [hk] at KC ⊢
    dsimp only at KC ⊢
    rw [show seenUp c e g = g from if_neg (by rw [hk];simp)]
    clear n1 n2 hk
    
    go_enter Tryz.func65,Tryz.ntmps65
    go_wp2_with (first|((with_reducible refine at_box ?_);refine st_boxf K.out rfl rfl (fun _=>rfl) ?_;intro ge w1 K1;have K2:=Lib.hid K1;clear K1 K;(try clear a0 l0);(try clear a1 l1);(try clear a2 l2);have K:=K2;clear K2;have a0:=K.out.rd 0 rfl;have l0:=K.out.ltp 0 rfl;have a1:=K.out.rd 1 rfl;have l1:=K.out.ltp 1 rfl))
    refine wp_region_noPanic ?_
    refine wp_region_held_drew (S:=(fun w'=>(∀ j,w'.cell? ⟨ge,j,none⟩ = e.v[j]?) ∧ (∀ j,w'.cell? ⟨a,j,none⟩ = (audV c bc bs)[j]?))) (by kernel_rfl) ?_ (fun hHeld=>?_)
    · ((try dsimp only);(refine mayS (E:=E) (bs:=bs) (M:=cellsA bc n f :: seenA bs m g :: L) ?_;first|exact K.out|exact K.out.drew))
    refine tk 0 (some 7) ?_
    try simp only[Act.put,p0,p1,p2]
    refine tk 1 (some 8) ?_
    try simp only[Act.put,p0,p1,p2]
    refine tk 2 (some 9) ?_
    try simp only[Act.put,p0,p1,p2]
    refine tk 3 (some 10) ?_
    try simp only[Act.put,p0,p1,p2]
    refine tk 4 (some 11) ?_
    try simp only[Act.put,p0,p1,p2]
    refine tk 5 (some 12) ?_
    try simp only[Act.put,p0,p1,p2]
    refine tk 6 (some 13) ?_
    try simp only[Act.put,p0,p1,p2]
    refine tk 7 (some 14) ?_
    try simp only[Act.put,p0,p1,p2]
    refine tk 8 (some 15) ?_
    try simp only[Act.put,p0,p1,p2]
    refine tk 9 (some 16) ?_
    try simp only[Act.put,p0,p1,p2]
    refine tk 10 (some 17) ?_
    try simp only[Act.put,p0,p1,p2]
    refine tk 11 (some 18) ?_
    try simp only[Act.put,p0,p1,p2]
    refine tk 12 (some 19) ?_
    try simp only[Act.put,p0,p1,p2]
    refine wpAnyH_done (by kernel_rfl) (NoPanic.normal ?_) _
    have K1 : sat E _ _:=K.out.drew
    clear K a0 l0 a1 l1
    have K:=Lib.hid K1
    clear K1
    have a0:=K.out.rd 0 rfl
    have a1:=K.out.rd 1 rfl
    go_wp2_with fail
    refine wp_region_noPanic ?_
    refine wp_region_held_drew (S:=(fun w'=>(∀ j,w'.cell? ⟨ge,j,none⟩ = e.v[j]?) ∧ (∀ j,w'.cell? ⟨a,j,none⟩ = (audV c bc bs)[j]?))) (by kernel_rfl) ?_ (fun hHeld=>?_)
    · ((try dsimp only);(refine mayS (E:=E) (bs:=bs) (M:=cellsA bc n f :: seenA bs m g :: L) ?_;first|exact K.out|exact K.out.drew))
    refine tk 0 (some 21) ?_
    try simp only[Act.put,p0,p1,p2]
    refine tk 1 (some 22) ?_
    try simp only[Act.put,p0,p1,p2]
    refine tk 2 (some 23) ?_
    try simp only[Act.put,p0,p1,p2]
    refine tk 3 (some 24) ?_
    try simp only[Act.put,p0,p1,p2]
    refine tk 4 (some 25) ?_
    try simp only[Act.put,p0,p1,p2]
    refine tk 5 (some 26) ?_
    try simp only[Act.put,p0,p1,p2]
    refine wpAnyH_ready (rs:=[6]) (by kernel_rfl) (by simp) ?_
    refine AllReadyH.cons (o:=_) rfl (fun kC hkC=>?_) AllReadyH.nil
    go_simp
    (first|(go_at_call 62;(with_reducible refine ((KC _).out).mono ?_);rintro e w1 ⟨rfl,hb⟩;have K1:=sat.grown (show sat _ _ _ from by first|exact K.out|exact K.out.drew) hb;clear hb;have K2:=Lib.hid K1;clear K1 K;(try clear a0 l0);(try clear f0);(try clear a1 l1);(try clear f1);(try clear a2 l2);(try clear f2);(try clear a3 l3);(try clear f3);(try clear a4 l4);(try clear f4);(try clear a5 l5);(try clear f5);have K:=K2;clear K2;(try have a0:=K.out.rd 0 rfl);(try have l0:=K.out.ltp 0 rfl);(try have f0:=K.out.fr 0 rfl);(try have a1:=K.out.rd 1 rfl);(try have l1:=K.out.ltp 1 rfl);(try have f1:=K.out.fr 1 rfl);(try have a2:=K.out.rd 2 rfl);(try have l2:=K.out.ltp 2 rfl);(try have f2:=K.out.fr 2 rfl);(try have a3:=K.out.rd 3 rfl);(try have l3:=K.out.ltp 3 rfl);(try have f3:=K.out.fr 3 rfl)))
    refine shown hkC _ _ (by (try dsimp only);(refine mayS (E:=E) (bs:=bs) (M:=cellsA bc n f :: seenA bs m g :: L) ?_;first|exact K.out|exact K.out.drew)) ?_;clear hkC kC hHeld;intro hHeld
    try simp only[Act.put,p0,p1,p2]
    refine tk 7 (some 20) ?_
    try simp only[Act.put,p0,p1,p2]
    refine tk 8 (some 28) ?_
    try simp only[Act.put,p0,p1,p2]
    refine tk 9 (some 29) ?_
    try simp only[Act.put,p0,p1,p2]
    refine tk 10 (some 5) ?_
    try simp only[Act.put,p0,p1,p2]
    refine tk 11 (some 6) ?_
    try simp only[Act.put,p0,p1,p2]
    refine wpAnyH_done (by kernel_rfl) (NoPanic.normal ?_) _
    go_wp2
    go_ret
    exact ⟨rfl,MM.out _ _ K.out⟩
  · rw [hk] at KC ⊢
    dsimp only at KC ⊢
    have SU:=Lib.hid (show seenUp c e g = if e.op = 0 then updI g (pairKey e.who e.cell) (unpack e.old).gen else g from by unfold seenUp;rw [hk];simp [hw0,hw1])
    clear n1 n2 hk
    have CC:=fun w' (D : SA) (h : sat E w' (audA a c bc bs :: cellsA bc n f :: seenA bs m g :: D :: L))=>Lib.hid (ofWord_calls c hc a bc bs n m f g e.cell k0 k1 hm e he h)
    clear hf
    go_enter Tryz.func65,Tryz.ntmps65
    go_wp2_with (first|((with_reducible refine at_box ?_);refine st_boxf K.out rfl rfl (fun _=>rfl) ?_;intro ge w1 K1;have K2:=Lib.hid K1;clear K1 K;(try clear a0 l0);(try clear a1 l1);(try clear a2 l2);have K:=K2;clear K2;have a0:=K.out.rd 0 rfl;have l0:=K.out.ltp 0 rfl;have a1:=K.out.rd 1 rfl;have l1:=K.out.ltp 1 rfl))
    refine wp_region_noPanic ?_
    refine wp_region_held_drew (S:=(fun w'=>(∀ j,w'.cell? ⟨ge,j,none⟩ = e.v[j]?) ∧ (∀ j,w'.cell? ⟨a,j,none⟩ = (audV c bc bs)[j]?))) (by kernel_rfl) ?_ (fun hHeld=>?_)
    · ((try dsimp only);(refine mayS (E:=E) (bs:=bs) (M:=cellsA bc n f :: seenA bs m g :: L) ?_;first|exact K.out|exact K.out.drew))
    refine tk 0 (some 7) ?_
    try simp only[Act.put,p0,p1,p2]
    refine tk 1 (some 8) ?_
    try simp only[Act.put,p0,p1,p2]
    refine tk 2 (some 9) ?_
    try simp only[Act.put,p0,p1,p2]
    refine tk 3 (some 10) ?_
    try simp only[Act.put,p0,p1,p2]
    refine tk 4 (some 11) ?_
    try simp only[Act.put,p0,p1,p2]
    refine tk 5 (some 12) ?_
    try simp only[Act.put,p0,p1,p2]
    refine tk 6 (some 13) ?_
    try simp only[Act.put,p0,p1,p2]
    refine tk 7 (some 14) ?_
    try simp only[Act.put,p0,p1,p2]
    refine tk 8 (some 15) ?_
    try simp only[Act.put,p0,p1,p2]
    refine tk 9 (some 16) ?_
    try simp only[Act.put,p0,p1,p2]
    refine tk 10 (some 17) ?_
    try simp only[Act.put,p0,p1,p2]
    refine tk 11 (some 18) ?_
    try simp only[Act.put,p0,p1,p2]
    refine tk 12 (some 19) ?_
    try simp only[Act.put,p0,p1,p2]
    refine wpAnyH_done (by kernel_rfl) (NoPanic.normal ?_) _
    have K1 : sat E _ _:=K.out.drew
    clear K a0 l0 a1 l1
    have K:=Lib.hid K1
    clear K1
    have a0:=K.out.rd 0 rfl
    have a1:=K.out.rd 1 rfl
    go_wp2_with fail
    refine wp_region_noPanic ?_
    refine wp_region_held_drew (S:=(fun w'=>(∀ j,w'.cell? ⟨ge,j,none⟩ = e.v[j]?) ∧ (∀ j,w'.cell? ⟨a,j,none⟩ = (audV c bc bs)[j]?))) (by kernel_rfl) ?_ (fun hHeld=>?_)
    · ((try dsimp only);(refine mayS (E:=E) (bs:=bs) (M:=cellsA bc n f :: seenA bs m g :: L) ?_;first|exact K.out|exact K.out.drew))
    refine tk 0 (some 21) ?_
    try simp only[Act.put,p0,p1,p2]
    refine tk 1 (some 22) ?_
    try simp only[Act.put,p0,p1,p2]
    refine tk 2 (some 23) ?_
    try simp only[Act.put,p0,p1,p2]
    refine tk 3 (some 24) ?_
    try simp only[Act.put,p0,p1,p2]
    refine tk 4 (some 25) ?_
    try simp only[Act.put,p0,p1,p2]
    refine tk 5 (some 26) ?_
    try simp only[Act.put,p0,p1,p2]
    refine wpAnyH_ready (rs:=[6]) (by kernel_rfl) (by simp) ?_
    refine AllReadyH.cons (o:=_) rfl (fun kC hkC=>?_) AllReadyH.nil
    go_simp
    (first|(go_at_call 62;(with_reducible refine ((KC _).out).mono ?_);rintro e w1 ⟨rfl,hb⟩;have K1:=sat.grown (show sat _ _ _ from by first|exact K.out|exact K.out.drew) hb;clear hb;have K2:=Lib.hid K1;clear K1 K;(try clear a0 l0);(try clear f0);(try clear a1 l1);(try clear f1);(try clear a2 l2);(try clear f2);(try clear a3 l3);(try clear f3);(try clear a4 l4);(try clear f4);(try clear a5 l5);(try clear f5);have K:=K2;clear K2;(try have a0:=K.out.rd 0 rfl);(try have l0:=K.out.ltp 0 rfl);(try have f0:=K.out.fr 0 rfl);(try have a1:=K.out.rd 1 rfl);(try have l1:=K.out.ltp 1 rfl);(try have f1:=K.out.fr 1 rfl);(try have a2:=K.out.rd 2 rfl);(try have l2:=K.out.ltp 2 rfl);(try have f2:=K.out.fr 2 rfl);(try have a3:=K.out.rd 3 rfl);(try have l3:=K.out.ltp 3 rfl);(try have f3:=K.out.fr 3 rfl)))
    refine shown hkC _ _ (by (try dsimp only);(refine mayS (E:=E) (bs:=bs) (M:=cellsA bc n f :: seenA bs m g :: L) ?_;first|exact K.out|exact K.out.drew)) ?_;clear hkC kC hHeld;intro hHeld
    try simp only[Act.put,p0,p1,p2]
    refine tk 7 (some 20) ?_
    try simp only[Act.put,p0,p1,p2]
    refine tk 8 (some 28) ?_
    try simp only[Act.put,p0,p1,p2]
    refine tk 9 (some 29) ?_
    try simp only[Act.put,p0,p1,p2]
    refine tk 10 (some 5) ?_
    try simp only[Act.put,p0,p1,p2]
    refine tk 11 (some 6) ?_
    try simp only[Act.put,p0,p1,p2]
    refine wpAnyH_done (by kernel_rfl) (NoPanic.normal ?_) _
    go_wp2_with (first|(go_at_call 87;(with_reducible refine (CC _ _ K.out.rot3).out.mono ?_);rintro r w1 ⟨rfl,K1⟩;replace K1:=K1.unrot3;have K2:=Lib.hid K1;clear K1 K;have K:=K2;clear K2))
    go_ret
    exact ⟨rfl,by rw [SU.out];exact K.out.drop⟩
  · rw [hk] at KC ⊢
    dsimp only at KC ⊢
    rw [show seenUp c e g = g from if_neg (by rw [hk];simp)]
    clear n1 n2 hk
    have CC:=fun w' (D : SA) (h : sat E w' (audA a c bc bs :: cellsA bc n f :: seenA bs m g :: D :: L))=>Lib.hid (ofValue_calls c hc a bc bs n m f g k k0 k1 e he hw0 hw1 hf h)
    clear hf
    go_enter Tryz.func65,Tryz.ntmps65
    go_wp2_with (first|((with_reducible refine at_box ?_);refine st_boxf K.out rfl rfl (fun _=>rfl) ?_;intro ge w1 K1;have K2:=Lib.hid K1;clear K1 K;(try clear a0 l0);(try clear a1 l1);(try clear a2 l2);have K:=K2;clear K2;have a0:=K.out.rd 0 rfl;have l0:=K.out.ltp 0 rfl;have a1:=K.out.rd 1 rfl;have l1:=K.out.ltp 1 rfl))
    refine wp_region_noPanic ?_
    refine wp_region_held_drew (S:=(fun w'=>(∀ j,w'.cell? ⟨ge,j,none⟩ = e.v[j]?) ∧ (∀ j,w'.cell? ⟨a,j,none⟩ = (audV c bc bs)[j]?))) (by kernel_rfl) ?_ (fun hHeld=>?_)
    · ((try dsimp only);(refine mayS (E:=E) (bs:=bs) (M:=cellsA bc n f :: seenA bs m g :: L) ?_;first|exact K.out|exact K.out.drew))
    refine tk 0 (some 7) ?_
    try simp only[Act.put,p0,p1,p2]
    refine tk 1 (some 8) ?_
    try simp only[Act.put,p0,p1,p2]
    refine tk 2 (some 9) ?_
    try simp only[Act.put,p0,p1,p2]
    refine tk 3 (some 10) ?_
    try simp only[Act.put,p0,p1,p2]
    refine tk 4 (some 11) ?_
    try simp only[Act.put,p0,p1,p2]
    refine tk 5 (some 12) ?_
    try simp only[Act.put,p0,p1,p2]
    refine tk 6 (some 13) ?_
    try simp only[Act.put,p0,p1,p2]
    refine tk 7 (some 14) ?_
    try simp only[Act.put,p0,p1,p2]
    refine tk 8 (some 15) ?_
    try simp only[Act.put,p0,p1,p2]
    refine tk 9 (some 16) ?_
    try simp only[Act.put,p0,p1,p2]
    refine tk 10 (some 17) ?_
    try simp only[Act.put,p0,p1,p2]
    refine tk 11 (some 18) ?_
    try simp only[Act.put,p0,p1,p2]
    refine tk 12 (some 19) ?_
    try simp only[Act.put,p0,p1,p2]
    refine wpAnyH_done (by kernel_rfl) (NoPanic.normal ?_) _
    have K1 : sat E _ _:=K.out.drew
    clear K a0 l0 a1 l1
    have K:=Lib.hid K1
    clear K1
    have a0:=K.out.rd 0 rfl
    have a1:=K.out.rd 1 rfl
    go_wp2_with fail
    refine wp_region_noPanic ?_
    refine wp_region_held_drew (S:=(fun w'=>(∀ j,w'.cell? ⟨ge,j,none⟩ = e.v[j]?) ∧ (∀ j,w'.cell? ⟨a,j,none⟩ = (audV c bc bs)[j]?))) (by kernel_rfl) ?_ (fun hHeld=>?_)
    · ((try dsimp only);(refine mayS (E:=E) (bs:=bs) (M:=cellsA bc n f :: seenA bs m g :: L) ?_;first|exact K.out|exact K.out.drew))
    refine tk 0 (some 21) ?_
    try simp only[Act.put,p0,p1,p2]
    refine tk 1 (some 22) ?_
    try simp only[Act.put,p0,p1,p2]
    refine tk 2 (some 23) ?_
    try simp only[Act.put,p0,p1,p2]
    refine tk 3 (some 24) ?_
    try simp only[Act.put,p0,p1,p2]
    refine tk 4 (some 25) ?_
    try simp only[Act.put,p0,p1,p2]
    refine tk 5 (some 26) ?_
    try simp only[Act.put,p0,p1,p2]
    refine wpAnyH_ready (rs:=[6]) (by kernel_rfl) (by simp) ?_
    refine AllReadyH.cons (o:=_) rfl (fun kC hkC=>?_) AllReadyH.nil
    go_simp
    (first|(go_at_call 62;(with_reducible refine ((KC _).out).mono ?_);rintro e w1 ⟨rfl,hb⟩;have K1:=sat.grown (show sat _ _ _ from by first|exact K.out|exact K.out.drew) hb;clear hb;have K2:=Lib.hid K1;clear K1 K;(try clear a0 l0);(try clear f0);(try clear a1 l1);(try clear f1);(try clear a2 l2);(try clear f2);(try clear a3 l3);(try clear f3);(try clear a4 l4);(try clear f4);(try clear a5 l5);(try clear f5);have K:=K2;clear K2;(try have a0:=K.out.rd 0 rfl);(try have l0:=K.out.ltp 0 rfl);(try have f0:=K.out.fr 0 rfl);(try have a1:=K.out.rd 1 rfl);(try have l1:=K.out.ltp 1 rfl);(try have f1:=K.out.fr 1 rfl);(try have a2:=K.out.rd 2 rfl);(try have l2:=K.out.ltp 2 rfl);(try have f2:=K.out.fr 2 rfl);(try have a3:=K.out.rd 3 rfl);(try have l3:=K.out.ltp 3 rfl);(try have f3:=K.out.fr 3 rfl)))
    refine shown hkC _ _ (by (try dsimp only);(refine mayS (E:=E) (bs:=bs) (M:=cellsA bc n f :: seenA bs m g :: L) ?_;first|exact K.out|exact K.out.drew)) ?_;clear hkC kC hHeld;intro hHeld
    try simp only[Act.put,p0,p1,p2]
    refine tk 7 (some 20) ?_
    try simp only[Act.put,p0,p1,p2]
    refine tk 8 (some 28) ?_
    try simp only[Act.put,p0,p1,p2]
    refine tk 9 (some 29) ?_
    try simp only[Act.put,p0,p1,p2]
    refine tk 10 (some 5) ?_
    try simp only[Act.put,p0,p1,p2]
    refine tk 11 (some 6) ?_
    try simp only[Act.put,p0,p1,p2]
    refine wpAnyH_done (by kernel_rfl) (NoPanic.normal ?_) _
    go_wp2_with (first|(go_at_call 88;(with_reducible refine (CC _ _ K.out.rot3).out.mono ?_);rintro r w1 ⟨rfl,K1⟩;replace K1:=K1.unrot3;have K2:=Lib.hid K1;clear K1 K;have K:=K2;clear K2))
    go_ret
    exact ⟨rfl,MM.out _ _ K.out⟩
  · rw [hk] at KC ⊢
    dsimp only at KC ⊢
    rw [show seenUp c e g = g from if_neg (by rw [hk];simp)]
    clear n1 n2 hk
    clear hf
    go_enter Tryz.func65,Tryz.ntmps65
    go_wp2_with (first|((with_reducible refine at_box ?_);refine st_boxf K.out rfl rfl (fun _=>rfl) ?_;intro ge w1 K1;have K2:=Lib.hid K1;clear K1 K;(try clear a0 l0);(try clear a1 l1);(try clear a2 l2);have K:=K2;clear K2;have a0:=K.out.rd 0 rfl;have l0:=K.out.ltp 0 rfl;have a1:=K.out.rd 1 rfl;have l1:=K.out.ltp 1 rfl))
    refine wp_region_noPanic ?_
    refine wp_region_held_drew (S:=(fun w'=>(∀ j,w'.cell? ⟨ge,j,none⟩ = e.v[j]?) ∧ (∀ j,w'.cell? ⟨a,j,none⟩ = (audV c bc bs)[j]?))) (by kernel_rfl) ?_ (fun hHeld=>?_)
    · ((try dsimp only);(refine mayS (E:=E) (bs:=bs) (M:=cellsA bc n f :: seenA bs m g :: L) ?_;first|exact K.out|exact K.out.drew))
    refine tk 0 (some 7) ?_
    try simp only[Act.put,p0,p1,p2]
    refine tk 1 (some 8) ?_
    try simp only[Act.put,p0,p1,p2]
    refine tk 2 (some 9) ?_
    try simp only[Act.put,p0,p1,p2]
    refine tk 3 (some 10) ?_
    try simp only[Act.put,p0,p1,p2]
    refine tk 4 (some 11) ?_
    try simp only[Act.put,p0,p1,p2]
    refine tk 5 (some 12) ?_
    try simp only[Act.put,p0,p1,p2]
    refine tk 6 (some 13) ?_
    try simp only[Act.put,p0,p1,p2]
    refine tk 7 (some 14) ?_
    try simp only[Act.put,p0,p1,p2]
    refine tk 8 (some 15) ?_
    try simp only[Act.put,p0,p1,p2]
    refine tk 9 (some 16) ?_
    try simp only[Act.put,p0,p1,p2]
    refine tk 10 (some 17) ?_
    try simp only[Act.put,p0,p1,p2]
    refine tk 11 (some 18) ?_
    try simp only[Act.put,p0,p1,p2]
    refine tk 12 (some 19) ?_
    try simp only[Act.put,p0,p1,p2]
    refine wpAnyH_done (by kernel_rfl) (NoPanic.normal ?_) _
    have K1 : sat E _ _:=K.out.drew
    clear K a0 l0 a1 l1
    have K:=Lib.hid K1
    clear K1
    have a0:=K.out.rd 0 rfl
    have a1:=K.out.rd 1 rfl
    go_wp2_with fail
    refine wp_region_noPanic ?_
    refine wp_region_held_drew (S:=(fun w'=>(∀ j,w'.cell? ⟨ge,j,none⟩ = e.v[j]?) ∧ (∀ j,w'.cell? ⟨a,j,none⟩ = (audV c bc bs)[j]?))) (by kernel_rfl) ?_ (fun hHeld=>?_)
    · ((try dsimp only);(refine mayS (E:=E) (bs:=bs) (M:=cellsA bc n f :: seenA bs m g :: L) ?_;first|exact K.out|exact K.out.drew))
    refine tk 0 (some 21) ?_
    try simp only[Act.put,p0,p1,p2]
    refine tk 1 (some 22) ?_
    try simp only[Act.put,p0,p1,p2]
    refine tk 2 (some 23) ?_
    try simp only[Act.put,p0,p1,p2]
    refine tk 3 (some 24) ?_
    try simp only[Act.put,p0,p1,p2]
    refine tk 4 (some 25) ?_
    try simp only[Act.put,p0,p1,p2]
    refine tk 5 (some 26) ?_
    try simp only[Act.put,p0,p1,p2]
    refine wpAnyH_ready (rs:=[6]) (by kernel_rfl) (by simp) ?_
    refine AllReadyH.cons (o:=_) rfl (fun kC hkC=>?_) AllReadyH.nil
    go_simp
    (first|(go_at_call 62;(with_reducible refine ((KC _).out).mono ?_);rintro e w1 ⟨rfl,hb⟩;have K1:=sat.grown (show sat _ _ _ from by first|exact K.out|exact K.out.drew) hb;clear hb;have K2:=Lib.hid K1;clear K1 K;(try clear a0 l0);(try clear f0);(try clear a1 l1);(try clear f1);(try clear a2 l2);(try clear f2);(try clear a3 l3);(try clear f3);(try clear a4 l4);(try clear f4);(try clear a5 l5);(try clear f5);have K:=K2;clear K2;(try have a0:=K.out.rd 0 rfl);(try have l0:=K.out.ltp 0 rfl);(try have f0:=K.out.fr 0 rfl);(try have a1:=K.out.rd 1 rfl);(try have l1:=K.out.ltp 1 rfl);(try have f1:=K.out.fr 1 rfl);(try have a2:=K.out.rd 2 rfl);(try have l2:=K.out.ltp 2 rfl);(try have f2:=K.out.fr 2 rfl);(try have a3:=K.out.rd 3 rfl);(try have l3:=K.out.ltp 3 rfl);(try have f3:=K.out.fr 3 rfl)))
    refine shown hkC _ _ (by (try dsimp only);(refine mayS (E:=E) (bs:=bs) (M:=cellsA bc n f :: seenA bs m g :: L) ?_;first|exact K.out|exact K.out.drew)) ?_;clear hkC kC hHeld;intro hHeld
    try simp only[Act.put,p0,p1,p2]
    refine tk 7 (some 20) ?_
    try simp only[Act.put,p0,p1,p2]
    refine tk 8 (some 28) ?_
    try simp only[Act.put,p0,p1,p2]
    refine tk 9 (some 29) ?_
    try simp only[Act.put,p0,p1,p2]
    refine tk 10 (some 5) ?_
    try simp only[Act.put,p0,p1,p2]
    refine tk 11 (some 6) ?_
    try simp only[Act.put,p0,p1,p2]
    refine wpAnyH_done (by kernel_rfl) (NoPanic.normal ?_) _
    go_wp2
    all_goals (go_ret;exact ⟨ret_b (by simp_all),MM.out _ _ K.out⟩)
  · rw [hk] at KC ⊢
    dsimp only at KC ⊢
    rw [show seenUp c e g = g from if_neg (by rw [hk];simp)]
    clear n1 n2 hk
    have CC:=fun w' (D : SA) (h : sat E w' (audA a c bc bs :: D :: cellsA bc n f :: seenA bs m g :: L))=>Lib.hid (ofNumber_calls c a bc bs k e he h)
    clear hf
    go_enter Tryz.func65,Tryz.ntmps65
    go_wp2_with (first|((with_reducible refine at_box ?_);refine st_boxf K.out rfl rfl (fun _=>rfl) ?_;intro ge w1 K1;have K2:=Lib.hid K1;clear K1 K;(try clear a0 l0);(try clear a1 l1);(try clear a2 l2);have K:=K2;clear K2;have a0:=K.out.rd 0 rfl;have l0:=K.out.ltp 0 rfl;have a1:=K.out.rd 1 rfl;have l1:=K.out.ltp 1 rfl))
    refine wp_region_noPanic ?_
    refine wp_region_held_drew (S:=(fun w'=>(∀ j,w'.cell? ⟨ge,j,none⟩ = e.v[j]?) ∧ (∀ j,w'.cell? ⟨a,j,none⟩ = (audV c bc bs)[j]?))) (by kernel_rfl) ?_ (fun hHeld=>?_)
    · ((try dsimp only);(refine mayS (E:=E) (bs:=bs) (M:=cellsA bc n f :: seenA bs m g :: L) ?_;first|exact K.out|exact K.out.drew))
    refine tk 0 (some 7) ?_
    try simp only[Act.put,p0,p1,p2]
    refine tk 1 (some 8) ?_
    try simp only[Act.put,p0,p1,p2]
    refine tk 2 (some 9) ?_
    try simp only[Act.put,p0,p1,p2]
    refine tk 3 (some 10) ?_
    try simp only[Act.put,p0,p1,p2]
    refine tk 4 (some 11) ?_
    try simp only[Act.put,p0,p1,p2]
    refine tk 5 (some 12) ?_
    try simp only[Act.put,p0,p1,p2]
    refine tk 6 (some 13) ?_
    try simp only[Act.put,p0,p1,p2]
    refine tk 7 (some 14) ?_
    try simp only[Act.put,p0,p1,p2]
    refine tk 8 (some 15) ?_
    try simp only[Act.put,p0,p1,p2]
    refine tk 9 (some 16) ?_
    try simp only[Act.put,p0,p1,p2]
    refine tk 10 (some 17) ?_
    try simp only[Act.put,p0,p1,p2]
    refine tk 11 (some 18) ?_
    try simp only[Act.put,p0,p1,p2]
    refine tk 12 (some 19) ?_
    try simp only[Act.put,p0,p1,p2]
    refine wpAnyH_done (by kernel_rfl) (NoPanic.normal ?_) _
    have K1 : sat E _ _:=K.out.drew
    clear K a0 l0 a1 l1
    have K:=Lib.hid K1
    clear K1
    have a0:=K.out.rd 0 rfl
    have a1:=K.out.rd 1 rfl
    go_wp2_with fail
    refine wp_region_noPanic ?_
    refine wp_region_held_drew (S:=(fun w'=>(∀ j,w'.cell? ⟨ge,j,none⟩ = e.v[j]?) ∧ (∀ j,w'.cell? ⟨a,j,none⟩ = (audV c bc bs)[j]?))) (by kernel_rfl) ?_ (fun hHeld=>?_)
    · ((try dsimp only);(refine mayS (E:=E) (bs:=bs) (M:=cellsA bc n f :: seenA bs m g :: L) ?_;first|exact K.out|exact K.out.drew))
    refine tk 0 (some 21) ?_
    try simp only[Act.put,p0,p1,p2]
    refine tk 1 (some 22) ?_
    try simp only[Act.put,p0,p1,p2]
    refine tk 2 (some 23) ?_
    try simp only[Act.put,p0,p1,p2]
    refine tk 3 (some 24) ?_
    try simp only[Act.put,p0,p1,p2]
    refine tk 4 (some 25) ?_
    try simp only[Act.put,p0,p1,p2]
    refine tk 5 (some 26) ?_
    try simp only[Act.put,p0,p1,p2]
    refine wpAnyH_ready (rs:=[6]) (by kernel_rfl) (by simp) ?_
    refine AllReadyH.cons (o:=_) rfl (fun kC hkC=>?_) AllReadyH.nil
    go_simp
    (first|(go_at_call 62;(with_reducible refine ((KC _).out).mono ?_);rintro e w1 ⟨rfl,hb⟩;have K1:=sat.grown (show sat _ _ _ from by first|exact K.out|exact K.out.drew) hb;clear hb;have K2:=Lib.hid K1;clear K1 K;(try clear a0 l0);(try clear f0);(try clear a1 l1);(try clear f1);(try clear a2 l2);(try clear f2);(try clear a3 l3);(try clear f3);(try clear a4 l4);(try clear f4);(try clear a5 l5);(try clear f5);have K:=K2;clear K2;(try have a0:=K.out.rd 0 rfl);(try have l0:=K.out.ltp 0 rfl);(try have f0:=K.out.fr 0 rfl);(try have a1:=K.out.rd 1 rfl);(try have l1:=K.out.ltp 1 rfl);(try have f1:=K.out.fr 1 rfl);(try have a2:=K.out.rd 2 rfl);(try have l2:=K.out.ltp 2 rfl);(try have f2:=K.out.fr 2 rfl);(try have a3:=K.out.rd 3 rfl);(try have l3:=K.out.ltp 3 rfl);(try have f3:=K.out.fr 3 rfl)))
    refine shown hkC _ _ (by (try dsimp only);(refine mayS (E:=E) (bs:=bs) (M:=cellsA bc n f :: seenA bs m g :: L) ?_;first|exact K.out|exact K.out.drew)) ?_;clear hkC kC hHeld;intro hHeld
    try simp only[Act.put,p0,p1,p2]
    refine tk 7 (some 20) ?_
    try simp only[Act.put,p0,p1,p2]
    refine tk 8 (some 28) ?_
    try simp only[Act.put,p0,p1,p2]
    refine tk 9 (some 29) ?_
    try simp only[Act.put,p0,p1,p2]
    refine tk 10 (some 5) ?_
    try simp only[Act.put,p0,p1,p2]
    refine tk 11 (some 6) ?_
    try simp only[Act.put,p0,p1,p2]
    refine wpAnyH_done (by kernel_rfl) (NoPanic.normal ?_) _
    go_wp2_with (first|(go_at_call 89;(with_reducible refine (CC _ _ K.out.swap).out.mono ?_);rintro r w1 ⟨rfl,K1⟩;replace K1:=K1.swap;have K2:=Lib.hid K1;clear K1 K;have K:=K2;clear K2))
    go_ret
    exact ⟨rfl,MM.out _ _ K.out⟩
end
end Go.Proofs.YtegdhojhnmgjgaaGreat
/- The events of an argument; what a cell is behind events, and the last word that a thread loaded of it. Conditions: the events lie in memory as told. -/
namespace Go.Proofs.YtegdhojhnmgjgaaGreat
open Go.RowKit Go.SepYtegdhojhnmgjgaaGreat Go.Maps
set_option maxRecDepth 100000
set_option maxHeartbeats 4000000
/-- The events of a slice, in memory that was there. -/
def OldE (w : World) (p : Option Addr) (l : List Ev) : Prop:=∀ j,(hj : j < l.length) → ∃ b off,p = some ⟨b,off,none⟩ ∧ b < w.heap.size ∧ ∀ i u,(Ev.v l[j])[i]? = some u → w.cell? ⟨b,off + j * 6 + i,none⟩ = some u
theorem OldE.grown {w w' : World} {p : Option Addr} {l : List Ev} (h : OldE w p l) (b : Below w.heap.size w w') : OldE w' p l:=fun j hj=>by
  obtain ⟨c,off,h1,h2,h3⟩:=h j hj
  exact ⟨c,off,h1,Nat.lt_of_lt_of_le h2 b.size,fun i u hi=>(b.cell (p:=⟨c,off + j * 6 + i,none⟩) h2).trans (h3 i u hi)⟩
theorem OldE.sat {E w : World} {L : List SA} {p : Option Addr} {l : List Ev} (h : OldE E p l) (s : Go.SepYtegdhojhnmgjgaaGreat.sat E w L) : OldE w p l:=h.grown s.below
theorem OldE.take {w : World} {p : Option Addr} {l : List Ev} (h : OldE w p l) (n : Nat) : OldE w p (l.take n):=fun j hj=>by
  have hj' : j < l.length:=by simp at hj;omega
  obtain ⟨c,off,h1,h2,h3⟩:=h j hj'
  refine ⟨c,off,h1,h2,fun i u hi=>h3 i u ?_⟩
  rwa [List.getElem_take] at hi
theorem oldE_of {W : World} {a : Option Addr} {len cap : Nat} {rows : List (List Value)} (h : RowsAt W [.int .i64,.int .i64,.int .i64,.int .u64,.int .u64,.bool] a len cap rows) :
    ∃ l : List Ev,l.length = len ∧ (∀ e ∈ l,Ev.wf e) ∧ OldE W a l:=by
  have e1 : IntKind.u64.min = 0:=by decide
  have e2 : IntKind.u64.max = 18446744073709551615:=by decide
  have e3 : IntKind.i64.min = -9223372036854775808:=by decide
  have e4 : IntKind.i64.max = 9223372036854775807:=by decide
  have hk : ∀ r ∈ rows,∃ v : Ev,r = Ev.v v ∧ Ev.wf v:=fun r hr=>by
    obtain ⟨n0,w0,rfl,h0,k0⟩:=okAll_int (h.ok r hr)
    obtain ⟨n1,w1,rfl,_,k1⟩:=okAll_int k0
    obtain ⟨n2,w2,rfl,h2,k2⟩:=okAll_int k1
    obtain ⟨n3,w3,rfl,h3,k3⟩:=okAll_int k2
    obtain ⟨n4,w4,rfl,h4,k4⟩:=okAll_int k3
    obtain ⟨n5,w5,rfl,k5⟩:=okAll_bool k4
    obtain rfl:=okAll_nil k5
    refine ⟨⟨n0,n1,n2,n3,n4,n5⟩,rfl,?_⟩
    simp only [Lit.wf,Bool.and_eq_true,decide_eq_true_eq] at h0 h2 h3 h4
    unfold Ev.wf
    dsimp only
    omega
  have hw : ∃ l : List Ev,rows = l.map Ev.v ∧ ∀ v ∈ l,Ev.wf v:=by
    have key : ∀ rs : List (List Value),(∀ r ∈ rs,∃ v : Ev,r = Ev.v v ∧ Ev.wf v) → ∃ l : List Ev,rs = l.map Ev.v ∧ ∀ v ∈ l,Ev.wf v:=by
      intro rs
      induction rs with
      | nil => exact fun _ => ⟨[], rfl, by simp⟩
      | cons r rs ih =>
        intro hr
        obtain ⟨v,rfl,hn⟩:=hr r List.mem_cons_self
        obtain ⟨ws,rfl,hws⟩:=ih (fun r h=>hr r (List.mem_cons_of_mem _ h))
        refine ⟨v :: ws,rfl,fun x hx=>?_⟩
        rcases List.mem_cons.1 hx with rfl|hx
        · exact hn
        · exact hws x hx
    exact key rows hk
  obtain ⟨l,rfl,hwf⟩:=hw
  have hlen : l.length = len:=by simpa using h.length
  refine ⟨l,hlen,hwf,fun j hj=>?_⟩
  cases a with
  | none => have := h.nil rfl; omega
  | some x =>
    have hc : ∀ i,(hi : i < l.length) → ∀ k u,(Ev.v l[i])[k]? = some u → W.cell? (x.add (i * 6 + k)) = some u:=fun i hi k u hu =>
      h.cell x rfl i k u (Ev.v l[i]) (by rw [List.getElem?_map,List.getElem?_eq_getElem hi];rfl) hu
    have h0:=hc 0 (by omega) 0 _ rfl
    have hs : x.spot = none:=World.cell?_spot (by simpa [Addr.add] using h0)
    obtain ⟨b,o,sp⟩:=x
    simp only at hs
    subst hs
    have hj':=hc j hj
    refine ⟨b,o,rfl,?_,fun i u hi=>?_⟩
    · have hj0:=hj' 0 _ rfl
      rw [Addr.add_lit] at hj0
      rcases Nat.lt_or_ge b W.heap.size with h|h
      · exact h
      · simp [World.cell?,Array.getElem?_eq_none h] at hj0
    · have:=hj' i u hi
      rw [Addr.add_lit] at this
      rw [Nat.add_assoc]
      exact this
section
variable {E w : World} {L : List SA}
theorem last_calls (p : Option Addr) (l : List Ev) (cap : Nat) (cell : Int) (w : World) (hl : l.length ≤ 1000000) (h : OldE w p l) :
    Tells 90 #[.slice p l.length cap,.int .i64 cell] w (.int .u64 (lastM l cell)):=by
  have K:=Lib.hid (sat.start w)
  have H:=Lib.hid h
  clear h
  go_enter Tryz.func90,Tryz.ntmps90
  go_wp2
  go_loopg [10,5] l.length (fun gk i x w'=>∃ n : Nat,n + gk = l.length ∧ i = .int .i64 n ∧ x = .int .u64 (lastM (l.take n) cell) ∧ Below w.heap.size w w')
  case atStart=>exact ⟨0,by simp,rfl,rfl,Below.refl _ _⟩
  case round =>
    obtain ⟨n,hn,rfl,rfl,hb⟩:=hrel
    by_cases hlt : n < l.length
    · have d0 : decide (n < l.length) = true:=by simpa using hlt
      obtain ⟨b,off,rfl,hb0,hx0⟩:=H.out n hlt
      have K1 : sat w wr []:=sat.nil hb
      clear K
      have K:=Lib.hid K1
      clear K1
      have hx : ∀ i u,(Ev.v l[n])[i]? = some u → wr.cell? ⟨b,off + n * 6 + i,none⟩ = some u:=fun i u hi=>(hb.cell (p:=⟨b,off + n * 6 + i,none⟩) hb0).trans (hx0 i u hi)
      have y0 : wr.cell? ⟨b,off + n * 6,none⟩ = _:=hx 0 _ rfl
      have y1:=hx 1 _ rfl
      have y2:=hx 2 _ rfl
      have y3:=hx 3 _ rfl
      have y4:=hx 4 _ rfl
      have y5:=hx 5 _ rfl
      have E1:=Lib.hid (show lastM (l.take (n + 1)) cell = if l[n].cell = cell then l[n].new else lastM (l.take n) cell from by rw [List.take_succ_eq_append_getElem hlt,lastM_snoc])
      have HN:=Lib.hid hn
      clear hx hx0 hn hb
      generalize l[n] = e at *
      obtain ⟨gk',rfl⟩ : ∃ g',gk = g' + 1:=⟨gk - 1,by have:=HN.out;omega⟩
      generalize lastM (l.take n) cell = x0 at *
      by_cases c0 : e.cell = cell
      · have c1 : (e.cell == cell) = true:=by simpa using c0
        rw [if_pos c0] at E1
        clear c0
        go_wp2_with (first|((with_reducible refine at_alloc ?_);refine st_allocf K.out (fun _=>rfl) ?_;intro ge w1 K1;have K2:=Lib.hid K1;clear K1 K;(try clear a0 l0);(try clear a1 l1);(try clear a2 l2);have K:=K2;clear K2;have a0:=K.out.rd 0 rfl;have l0:=K.out.ltp 0 rfl)|((with_reducible refine at_store ?_);refine st_store 0 K.out rfl rfl rfl rfl ?_ ?_ ?_ ?_;(· kernel_rfl);(· simp);(· simp [Value.oneCell']);intro w1 K1;simp only [List.set,putL] at K1;have K2:=Lib.hid K1;clear K1 K;(try clear a0 l0);(try clear a1 l1);(try clear a2 l2);have K:=K2;clear K2;have a0:=K.out.rd 0 rfl;have l0:=K.out.ltp 0 rfl))
        go_roundg gk'
        case measure=>omega
        case rel=>exact ⟨n + 1,by have:=HN.out;omega,by simp,by rw [E1.out],K.out.below⟩
      · have c1 : (e.cell == cell) = false:=by simpa using c0
        rw [if_neg c0] at E1
        clear c0
        go_wp2_with (first|((with_reducible refine at_alloc ?_);refine st_allocf K.out (fun _=>rfl) ?_;intro ge w1 K1;have K2:=Lib.hid K1;clear K1 K;(try clear a0 l0);(try clear a1 l1);(try clear a2 l2);have K:=K2;clear K2;have a0:=K.out.rd 0 rfl;have l0:=K.out.ltp 0 rfl)|((with_reducible refine at_store ?_);refine st_store 0 K.out rfl rfl rfl rfl ?_ ?_ ?_ ?_;(· kernel_rfl);(· simp);(· simp [Value.oneCell']);intro w1 K1;simp only [List.set,putL] at K1;have K2:=Lib.hid K1;clear K1 K;(try clear a0 l0);(try clear a1 l1);(try clear a2 l2);have K:=K2;clear K2;have a0:=K.out.rd 0 rfl;have l0:=K.out.ltp 0 rfl))
        go_roundg gk'
        case measure=>omega
        case rel=>exact ⟨n + 1,by have:=HN.out;omega,by simp,by rw [E1.out],K.out.below⟩
    · have hnl : n = l.length:=by omega
      subst hnl
      have d0 : decide (l.length < l.length) = false:=by simp
      rw [List.take_length]
      go_wp2
      go_ret
      exact ⟨rfl,hb⟩
theorem loadedM_append (who cell : Int) (b : List Ev) : ∀ a : List Ev,loadedM (a ++ b) who cell = match loadedM b who cell with|some x=>some x|none=>loadedM a who cell
  | [] => by
    rw [List.nil_append]
    cases loadedM b who cell <;> rfl
  | x :: a => by
    rw [List.cons_append,loadedM,loadedM_append who cell b a,loadedM]
    cases loadedM b who cell <;> rfl
theorem loadedM_bd (who cell : Int) : ∀ l : List Ev,(∀ e ∈ l,Ev.wf e) → ∀ x,loadedM l who cell = some x → 0 ≤ x ∧ x < 18446744073709551616
  | [], _, x, h => by cases h
  | e :: l, hw, x, h => by
    rw [loadedM] at h
    have ih:=loadedM_bd who cell l (fun e he=>hw e (List.mem_cons_of_mem _ he))
    cases hl : loadedM l who cell with
    | some y => rw [hl] at h ih; obtain rfl := Option.some.inj h; exact ih _ rfl
    | none =>
      rw [hl] at h
      dsimp only at h
      split at h
      · obtain rfl:=Option.some.inj h;exact (hw e List.mem_cons_self).2.2.1
      · cases h
def loadV : Option Int → Value
  | none => .tuple #[.agg #[.int .i64 0, .int .i64 0, .int .i64 0, .int .i64 0, .int .i64 0], .bool false]
  | some x => .tuple #[wordV (unpack x), .bool true]
theorem loaded_calls (p : Option Addr) (l : List Ev) (cap : Nat) (who cell : Int) (w : World) (hl : l.length ≤ 1000000) (hwf : ∀ e ∈ l,Ev.wf e) (h : OldE w p l) :
    Tells 93 #[.slice p l.length cap,.int .i64 who,.int .i64 cell] w (loadV (loadedM l who cell)):=by
  have K:=Lib.hid (sat.start w)
  have H:=Lib.hid h
  have HW:=Lib.hid hwf
  clear h hwf
  have hz0 : wrap64 ((l.length : Int) - 1) = (l.length : Int) - 1:=w64 (by omega) (by omega)
  go_enter Tryz.func93,Tryz.ntmps93
  go_wp2_with (first|((with_reducible refine at_alloc ?_);refine st_allocf K.out (fun _=>rfl) ?_;intro gr w1 K1;have K2:=Lib.hid K1;clear K1 K;(try clear a0 l0);(try clear a1 l1);(try clear a2 l2);have K:=K2;clear K2;have a0:=K.out.rd 0 rfl;have l0:=K.out.ltp 0 rfl))
  go_loopg [8] l.length (fun gk i w'=>∃ n : Nat,n = gk ∧ n ≤ l.length ∧ i = .int .i64 ((n : Int) - 1) ∧ loadedM (l.drop n) who cell = none ∧ sat w w' [pt gr (.cells #[.int .i64 0,.int .i64 0,.int .i64 0,.int .i64 0,.int .i64 0] 122 (0,0))])
  case atStart=>exact ⟨l.length,rfl,Nat.le_refl _,rfl,by simp [loadedM],K.out⟩
  case round =>
    obtain ⟨n,rfl,hn,rfl,hno,hs⟩:=hrel
    clear K a0 l0
    have K:=Lib.hid hs
    clear hs
    have a0:=K.out.rd 0 rfl
    have l0:=K.out.ltp 0 rfl
    cases n with
    | zero =>
      have d0 : decide (((0 : Nat) : Int) - 1 ≥ 0) = false:=by simp
      have E1:=Lib.hid (show loadedM l who cell = none from by simpa using hno)
      clear hno
      go_wp2_with (first|((with_reducible refine at_store ?_);refine st_store 0 K.out rfl rfl rfl rfl ?_ ?_ ?_ ?_;(· kernel_rfl);(· simp);(· simp [Value.oneCell']);intro w1 K1;simp only [List.set,putL] at K1;have K2:=Lib.hid K1;clear K1 K;(try clear a0 l0);(try clear a1 l1);(try clear a2 l2);have K:=K2;clear K2;have a0:=K.out.rd 0 rfl;have l0:=K.out.ltp 0 rfl))
      rw [E1.out]
      exact bodyPost_ret (v:=loadV none) (by simp [results,Tryz.results93,go_sem,loadV,a0]) rfl ⟨rfl,K.out.below⟩
    | succ n =>
      have hlt : n < l.length:=by omega
      have d0 : decide (((n + 1 : Nat) : Int) - 1 ≥ 0) = true:=by simp
      have i0 : ((n + 1 : Nat) : Int) - 1 = (n : Int):=by omega
      have i1 : wrap64 ((n : Int) - 1) = (n : Int) - 1:=w64 (by omega) (by omega)
      have d1 : decide ((n : Int) ≥ 0) = true:=by simp
      obtain ⟨b,off,rfl,hb0,hx0⟩:=H.out n hlt
      have hx : ∀ i u,(Ev.v l[n])[i]? = some u → wr.cell? ⟨b,off + n * 6 + i,none⟩ = some u:=fun i u hi=>(K.out.below.cell (p:=⟨b,off + n * 6 + i,none⟩) hb0).trans (hx0 i u hi)
      have y0 : wr.cell? ⟨b,off + n * 6,none⟩ = _:=hx 0 _ rfl
      have y1:=hx 1 _ rfl
      have y2:=hx 2 _ rfl
      have y3:=hx 3 _ rfl
      have y4:=hx 4 _ rfl
      have y5:=hx 5 _ rfl
      have hwn:=HW.out l[n] (List.getElem_mem hlt)
      have U:=fun w'=>Lib.hid (unpack_lay l[n].old hwn.2.2.1.1 hwn.2.2.1.2 w')
      have E1:=Lib.hid (show loadedM (l.drop n) who cell = if l[n].who = who ∧ l[n].cell = cell ∧ l[n].op = 0 then some l[n].old else none from by rw [List.drop_eq_getElem_cons hlt,loadedM,hno])
      have E2:=Lib.hid (show ∀ x,loadedM (l.drop n) who cell = some x → loadedM l who cell = some x from fun x hx=>by
        have:=loadedM_append who cell (l.drop n) (l.take n)
        rw [List.take_append_drop,hx] at this
        exact this)
      have HN:=Lib.hid hn
      rw [i0]
      clear hx hx0 hn hno hwn i0
      generalize l[n] = e at *
      by_cases q1 : e.who = who
      · have t1 : (e.who == who) = true:=by simpa using q1
        by_cases q2 : e.cell = cell
        · have t2 : (e.cell == cell) = true:=by simpa using q2
          by_cases q3 : e.op = 0
          · have t3 : (e.op == 0) = true:=by simpa using q3
            rw [if_pos ⟨q1,q2,q3⟩] at E1
            have E3:=Lib.hid (E2.out _ E1.out)
            clear q1 q2 q3
            go_wp2_with (first|((with_reducible refine at_alloc ?_);refine st_allocf K.out (fun _=>rfl) ?_;intro ge w1 K1;have K2:=Lib.hid K1;clear K1 K;(try clear a0 l0);(try clear a1 l1);(try clear a2 l2);have K:=K2;clear K2;have a0:=K.out.rd 0 rfl;have l0:=K.out.ltp 0 rfl;have a1:=K.out.rd 1 rfl;have l1:=K.out.ltp 1 rfl)|((with_reducible refine at_store ?_);refine st_store 0 K.out rfl rfl rfl rfl ?_ ?_ ?_ ?_;(· kernel_rfl);(· simp);(· simp [Value.oneCell']);intro w1 K1;simp only [List.set,putL] at K1;have K2:=Lib.hid K1;clear K1 K;(try clear a0 l0);(try clear a1 l1);(try clear a2 l2);have K:=K2;clear K2;have a0:=K.out.rd 0 rfl;have l0:=K.out.ltp 0 rfl;have a1:=K.out.rd 1 rfl;have l1:=K.out.ltp 1 rfl)|(go_at_call 91;(with_reducible refine ((U _).out).mono ?_);rintro e w1 ⟨rfl,hb⟩;have K1:=sat.grown (by repeat (with_reducible first|exact K.out|apply sat.alloc_any|apply sat.drew|apply sat.drewN)) hb;clear hb;have K2:=Lib.hid K1;clear K1 K;(try clear a0 l0);(try clear a1 l1);(try clear a2 l2);have K:=K2;clear K2;have a0:=K.out.rd 0 rfl;have l0:=K.out.ltp 0 rfl;have a1:=K.out.rd 1 rfl;have l1:=K.out.ltp 1 rfl)|((with_reducible refine at_store ?_);refine st_store 1 K.out rfl rfl rfl rfl ?_ ?_ ?_ ?_;(· kernel_rfl);(· simp);(· simp [Value.oneCell']);intro w1 K1;simp only [List.set,putL] at K1;have K2:=Lib.hid K1;clear K1 K;(try clear a0 l0);(try clear a1 l1);(try clear a2 l2);have K:=K2;clear K2;have a0:=K.out.rd 0 rfl;have l0:=K.out.ltp 0 rfl;have a1:=K.out.rd 1 rfl;have l1:=K.out.ltp 1 rfl))
            rw [E3.out]
            exact bodyPost_ret (v:=loadV (some e.old)) (by simp [results,Tryz.results93,go_sem,loadV,a1]) rfl ⟨rfl,K.out.below⟩
          · have t3 : (e.op == 0) = false:=by simpa using q3
            rw [if_neg (fun h=>q3 h.2.2)] at E1
            clear q1 q2 q3
            go_wp2_with (first|((with_reducible refine at_alloc ?_);refine st_allocf K.out (fun _=>rfl) ?_;intro ge w1 K1;have K2:=Lib.hid K1;clear K1 K;(try clear a0 l0);(try clear a1 l1);(try clear a2 l2);have K:=K2;clear K2;have a0:=K.out.rd 0 rfl;have l0:=K.out.ltp 0 rfl;have a1:=K.out.rd 1 rfl;have l1:=K.out.ltp 1 rfl)|((with_reducible refine at_store ?_);refine st_store 0 K.out rfl rfl rfl rfl ?_ ?_ ?_ ?_;(· kernel_rfl);(· simp);(· simp [Value.oneCell']);intro w1 K1;simp only [List.set,putL] at K1;have K2:=Lib.hid K1;clear K1 K;(try clear a0 l0);(try clear a1 l1);(try clear a2 l2);have K:=K2;clear K2;have a0:=K.out.rd 0 rfl;have l0:=K.out.ltp 0 rfl;have a1:=K.out.rd 1 rfl;have l1:=K.out.ltp 1 rfl))
            go_roundg n
            case measure=>omega
            case rel=>exact ⟨n,rfl,by have:=HN.out;omega,rfl,E1.out,K.out.drop⟩
        · have t2 : (e.cell == cell) = false:=by simpa using q2
          rw [if_neg (fun h=>q2 h.2.1)] at E1
          clear q1 q2
          go_wp2_with (first|((with_reducible refine at_alloc ?_);refine st_allocf K.out (fun _=>rfl) ?_;intro ge w1 K1;have K2:=Lib.hid K1;clear K1 K;(try clear a0 l0);(try clear a1 l1);(try clear a2 l2);have K:=K2;clear K2;have a0:=K.out.rd 0 rfl;have l0:=K.out.ltp 0 rfl;have a1:=K.out.rd 1 rfl;have l1:=K.out.ltp 1 rfl)|((with_reducible refine at_store ?_);refine st_store 0 K.out rfl rfl rfl rfl ?_ ?_ ?_ ?_;(· kernel_rfl);(· simp);(· simp [Value.oneCell']);intro w1 K1;simp only [List.set,putL] at K1;have K2:=Lib.hid K1;clear K1 K;(try clear a0 l0);(try clear a1 l1);(try clear a2 l2);have K:=K2;clear K2;have a0:=K.out.rd 0 rfl;have l0:=K.out.ltp 0 rfl;have a1:=K.out.rd 1 rfl;have l1:=K.out.ltp 1 rfl))
          go_roundg n
          case measure=>omega
          case rel=>exact ⟨n,rfl,by have:=HN.out;omega,rfl,E1.out,K.out.drop⟩
      · have t1 : (e.who == who) = false:=by simpa using q1
        rw [if_neg (fun h=>q1 h.1)] at E1
        clear q1
        go_wp2_with (first|((with_reducible refine at_alloc ?_);refine st_allocf K.out (fun _=>rfl) ?_;intro ge w1 K1;have K2:=Lib.hid K1;clear K1 K;(try clear a0 l0);(try clear a1 l1);(try clear a2 l2);have K:=K2;clear K2;have a0:=K.out.rd 0 rfl;have l0:=K.out.ltp 0 rfl;have a1:=K.out.rd 1 rfl;have l1:=K.out.ltp 1 rfl)|((with_reducible refine at_store ?_);refine st_store 0 K.out rfl rfl rfl rfl ?_ ?_ ?_ ?_;(· kernel_rfl);(· simp);(· simp [Value.oneCell']);intro w1 K1;simp only [List.set,putL] at K1;have K2:=Lib.hid K1;clear K1 K;(try clear a0 l0);(try clear a1 l1);(try clear a2 l2);have K:=K2;clear K2;have a0:=K.out.rd 0 rfl;have l0:=K.out.ltp 0 rfl;have a1:=K.out.rd 1 rfl;have l1:=K.out.ltp 1 rfl))
        go_roundg n
        case measure=>omega
        case rel=>exact ⟨n,rfl,by have:=HN.out;omega,rfl,E1.out,K.out.drop⟩
end
end Go.Proofs.YtegdhojhnmgjgaaGreat
/- The first event that may not be, as the auditor finds it (audit.First). Conditions: a Right layout; the events lie in memory as told; numbers within their kinds. -/
namespace Go.Proofs.YtegdhojhnmgjgaaGreat
open Go.RowKit Go.SepYtegdhojhnmgjgaaGreat Go.Maps
set_option maxRecDepth 100000
set_option maxHeartbeats 4000000
/-- What the auditor's maps hold behind events that all may be. -/
structure Audd (c : ConfM) (l : List Ev) (f g : Lit → Option Int) : Prop where
  cells : ∀ i,(f (.int .i64 i)).getD 0 = lastM l i
  seen : ∀ who slot,w64P who → 0 ≤ slot → slot < c.all → g (pairKey who slot) = rdM l who slot
theorem lastM_bd (l : List Ev) (h : ∀ e ∈ l,Ev.wf e) (i : Int) : 0 ≤ lastM l i ∧ lastM l i < 18446744073709551616:=by
  have key : ∀ (l : List Ev) (x : Int),(∀ e ∈ l,Ev.wf e) → 0 ≤ x ∧ x < 18446744073709551616 → 0 ≤ l.foldl (fun x e=>if e.cell = i then e.new else x) x ∧ l.foldl (fun x e=>if e.cell = i then e.new else x) x < 18446744073709551616:=by
    intro l
    induction l with
    | nil => exact fun x _ hx => hx
    | cons e l ih =>
      intro x h hx
      rw [List.foldl_cons]
      refine ih _ (fun y hy=>h y (List.mem_cons_of_mem _ hy)) ?_
      split
      · exact (h e List.mem_cons_self).2.2.2
      · exact hx
  exact key l 0 h (by omega)
theorem mayM_congr {c : ConfM} {f f' : Int → Int} {r r' : Int → Option Int} (e : Ev) (hc : c.ok) (hf : ∀ i,f i = f' i) (hr : ∀ s,0 ≤ s → s < c.all → r s = r' s) : mayM c f r e = mayM c f' r' e:=by
  obtain rfl : f = f':=funext hf
  unfold mayM
  split
  · rfl
  · rcases kind_cases c hc e.cell with ⟨k,hk⟩|⟨hk,k0,k1⟩|⟨k,hk,k0,k1⟩|⟨k,hk⟩|⟨k,hk⟩ <;> rw [hk]
    · rfl
    · rfl
    · show valueB c f (r k) e k = valueB c f (r' k) e k
      rw [hr k k0 k1]
    · rfl
    · rfl
theorem Audd.start (c : ConfM) : Audd c [] (fun _=>none) (fun _=>none):=⟨fun _=>rfl,fun _ _ _ _ _=>rfl⟩
theorem kind_one {c : ConfM} {cell : Int} (h : (kindM c cell).1 = 1) : 0 ≤ cell ∧ cell < c.all:=by
  unfold kindM at h
  (repeat' split at h) <;> first|omega|(simp at h)
theorem kind_word {c : ConfM} (hc : c.ok) {cell : Int} (h0 : 0 ≤ cell) (h1 : cell < c.all) : (kindM c cell).1 = 1:=by
  have:=hc.th1
  have:=hc.all_bd
  unfold kindM ConfM.cells
  rw [if_neg (by omega),if_pos h1]
theorem Audd.step {c : ConfM} (hc : c.ok) {l : List Ev} {f g : Lit → Option Int} (h : Audd c l f g) (e : Ev) (he : Ev.wf e) (hw0 : 0 ≤ e.who) (hw1 : e.who < c.th) (hcell : 0 ≤ e.cell ∧ e.cell < c.cells) : Audd c (l ++ [e]) (updI f (.int .i64 e.cell) e.new) (seenUp c e g):=by
  refine ⟨fun i=>?_,fun who slot h0 h1 h2=>?_⟩
  · rw [lastM_snoc]
    by_cases hi : i = e.cell
    · subst hi;rw [updI_same,if_pos rfl];rfl
    · rw [updI_other _ _ _ (by intro hh;injection hh with _ hh;exact hi hh),if_neg (Ne.symm hi)];exact h.cells i
  · rw [rdM_snoc]
    unfold seenUp
    by_cases hk : (kindM c e.cell).1 = 1 ∧ e.op = 0
    · rw [if_pos ⟨⟨hw0,hw1⟩,hk⟩]
      have hb:=kind_one hk.1
      have hal:=hc.all_bd
      by_cases hp : who = e.who ∧ slot = e.cell
      · obtain ⟨rfl,rfl⟩:=hp
        rw [updI_same,if_pos ⟨rfl,rfl,hk.2⟩]
      · rw [updI_other _ _ _ (fun hh=>hp (pairKey_inj h0 (by unfold w64P;omega) he.1 (by unfold w64P;omega) hh)),if_neg (fun hh=>hp ⟨hh.1.symm,hh.2.1.symm⟩)]
        exact h.seen who slot h0 h1 h2
    · rw [if_neg (fun hh=>hk hh.2),if_neg (fun hh=>hk ⟨by rw [hh.2.1];exact kind_word hc h1 h2,hh.2.2⟩)]
      exact h.seen who slot h0 h1 h2
theorem okM_may {c : ConfM} {l : List Ev} {e : Ev} (h : okM c l e = true) : (0 ≤ e.who ∧ e.who < c.th) ∧ 0 ≤ e.cell ∧ e.cell < c.cells:=by
  unfold okM at h
  have h2:=(Bool.and_eq_true_iff.1 h).2
  unfold mayM at h2
  by_cases hw : e.who < 0 ∨ c.th ≤ e.who
  · rw [if_pos hw] at h2;cases h2
  · rw [if_neg hw] at h2
    refine ⟨by omega,?_⟩
    by_cases hr : e.cell < 0 ∨ c.cells ≤ e.cell
    · have : kindM c e.cell = (0,0):=by unfold kindM;rw [if_pos hr]
      rw [this] at h2
      exact absurd (show false = true from h2) (by decide)
    · omega
section
variable {E w : World} {L : List SA}
theorem _root_.Go.SepYtegdhojhnmgjgaaGreat.sat.first3 {A B C D : SA} (h : sat E w [A,B,C,D]) : sat E w [A,C,B]:=(((h.pick 3 rfl).drop).pick 2 rfl).pick 1 rfl
theorem cellU {ge a bc bs n : Nat} {e : Ev} {c : ConfM} {f : Lit → Option Int} {M : List SA} (h : sat E w (evA ge e :: audA a c bc bs :: cellsA bc n f :: M)) {i : Int} (h1 : w64P i) {x : Int} (hx : (f (.int .i64 i)).getD 0 = x) :
    (∀ j,w.cell? ⟨ge,j,none⟩ = e.v[j]?) ∧ (∀ j,w.cell? ⟨a,j,none⟩ = (audV c bc bs)[j]?) ∧ (Instr.lookup 124 (.map (some bc)) (.int .i64 i) false).run Tryz.prog w = .ok (.int .u64 x) w:=by
  subst hx
  exact ⟨h.rd 0 rfl,h.rd 1 rfl,look_cells (h.pick 2 rfl) h1⟩
theorem afirst_calls (c : ConfM) (hc : c.ok) (p : Option Addr) (l : List Ev) (cap : Nat) (w : World) (hl : l.length ≤ 1000000) (hwf : ∀ e ∈ l,Ev.wf e) (h : OldE w p l) :
    Tells 46 #[.agg #[.int .i64 c.th,.int .i64 c.sl,.int .i64 c.src,.int .i64 c.dl],.slice p l.length cap] w (.int .i64 (firstM c [] l)):=by
  have K:=Lib.hid (sat.start w)
  have H:=Lib.hid h
  have HW:=Lib.hid hwf
  clear h hwf
  go_enter Tryz.func46,Tryz.ntmps46
  go_wp2_with (first|((with_reducible refine at_box ?_);refine st_boxf K.out rfl rfl (fun _=>rfl) ?_;intro gc w1 K1;have K2:=Lib.hid K1;clear K1 K;(try clear a0 l0);(try clear a1 l1);(try clear a2 l2);have K:=K2;clear K2;have a0:=K.out.rd 0 rfl;have l0:=K.out.ltp 0 rfl)|((with_reducible refine at_makeMap' ?_);(first|(have _hp:=g1;refine st_makeMap 168 3 .i64 K.out ?_;intro g2 w1 K1;have K2:=Lib.hid K1;clear K1 K;(try clear a0 l0);(try clear a1 l1);(try clear a2 l2);have K:=K2;clear K2;have a2:=K.out.rd 2 rfl;have l2:=K.out.ltp 2 rfl)|(refine st_makeMap 3 33 .u64 K.out ?_;intro g1 w1 K1;have K2:=Lib.hid K1;clear K1 K;(try clear a0 l0);(try clear a1 l1);(try clear a2 l2);have K:=K2;clear K2;have a1:=K.out.rd 1 rfl;have l1:=K.out.ltp 1 rfl)))|((with_reducible refine at_box ?_);refine st_boxf K.out rfl rfl (fun _=>rfl) ?_;intro ga w1 K1;have K2:=Lib.hid K1;clear K1 K;(try clear a0 l0);(try clear a1 l1);(try clear a2 l2);have K:=K2;clear K2;have a0:=K.out.rd 0 rfl;have l0:=K.out.ltp 0 rfl;have a3:=K.out.rd 3 rfl;have l3:=K.out.ltp 3 rfl))
  have K1:=K.out.first3
  clear K
  have K:=Lib.hid K1
  clear K1
  go_loopg [15] l.length (fun gk i w'=>∃ (n : Nat) (f g : Lit → Option Int),n + gk = l.length ∧ i = .int .i64 n ∧ firstM c [] l = firstM c (l.take n) (l.drop n) ∧ Audd c (l.take n) f g ∧ sat w w' [audA gc c g1 g2,cellsA g1 n f,seenA g2 n g])
  case atStart=>exact ⟨0,_,_,by simp,rfl,by simp,Audd.start c,K.out⟩
  case round =>
    obtain ⟨n,f,g,hn,rfl,hfi,hA,hs⟩:=hrel
    clear K
    have K:=Lib.hid hs
    clear hs
    have a0:=K.out.rd 0 rfl
    have l0:=K.out.ltp 0 rfl
    by_cases hlt : n < l.length
    · have d0 : decide (n < l.length) = true:=by simpa using hlt
      obtain ⟨b,off,rfl,hb0,hx0⟩:=H.out n hlt
      have hx : ∀ i u,(Ev.v l[n])[i]? = some u → wr.cell? ⟨b,off + n * 6 + i,none⟩ = some u:=fun i u hi=>(K.out.below.cell (p:=⟨b,off + n * 6 + i,none⟩) hb0).trans (hx0 i u hi)
      have y0 : wr.cell? ⟨b,off + n * 6,none⟩ = _:=hx 0 _ rfl
      have y1:=hx 1 _ rfl
      have y2:=hx 2 _ rfl
      have y3:=hx 3 _ rfl
      have y4:=hx 4 _ rfl
      have y5:=hx 5 _ rfl
      have hwn:=HW.out l[n] (List.getElem_mem hlt)
      have hlb:=lastM_bd (l.take n) (fun e he=>HW.out e (List.mem_of_mem_take he))
      have E1:=Lib.hid (show firstM c [] l = if okM c (l.take n) l[n] then firstM c (l.take (n + 1)) (l.drop (n + 1)) else (n : Int) from by
        rw [hfi,List.drop_eq_getElem_cons hlt,firstM,← List.take_succ_eq_append_getElem hlt,List.length_take,Nat.min_eq_left (by omega)])
      have E2:=Lib.hid (show okM c (l.take n) l[n] = (l[n].old == lastM (l.take n) l[n].cell && mayM c (lastF f) (fun s=>g (pairKey l[n].who s)) l[n]) from by
        unfold okM
        rw [mayM_congr l[n] hc (f:=lastF f) (f':=lastM (l.take n)) (r:=fun s=>g (pairKey l[n].who s)) (r':=rdM (l.take n) l[n].who) hA.cells (fun s h0 h1=>hA.seen _ _ hwn.1 h0 h1)])
      have E3:=Lib.hid (show okM c (l.take n) l[n] = true → Audd c (l.take (n + 1)) (updI f (.int .i64 l[n].cell) l[n].new) (seenUp c l[n] g) from fun h=>by
        rw [List.take_succ_eq_append_getElem hlt]
        have hm:=okM_may h
        exact hA.step hc _ hwn hm.1.1 hm.1.2 hm.2)
      have HX:=Lib.hid (hA.cells l[n].cell)
      have hf : ∀ i,0 ≤ (f (.int .i64 i)).getD 0 ∧ (f (.int .i64 i)).getD 0 < 18446744073709551616:=fun i=>by rw [hA.cells];exact hlb i
      have HN:=Lib.hid hn
      clear hx hx0 hn hfi hA hlb
      generalize okM c (l.take n) l[n] = okn at *
      generalize lastM (l.take n) l[n].cell = x0 at *
      generalize l[n] = e at *
      have CC:=fun w' (D : SA) (h : sat w w' [audA gc c g1 g2,cellsA g1 n f,seenA g2 n g,D])=>Lib.hid (mapd_calls c hc gc g1 g2 n n f g (by omega) e hwn hf h)
      have HC:=Lib.hid (show w64P e.cell from hwn.2.1)
      have HV:=Lib.hid (wfU hwn.2.2.2)
      obtain ⟨gk',rfl⟩ : ∃ g',gk = g' + 1:=⟨gk - 1,by have:=HN.out;omega⟩
      clear hf hwn
      by_cases q0 : e.old = x0
      · have t0 : (e.old != x0) = false:=by simp [q0]
        have t9 : (e.old == x0) = true:=by simp [q0]
        rw [t9,Bool.true_and] at E2
        clear q0 t9
        generalize mayM c (lastF f) (fun s=>g (pairKey e.who s)) e = mv at *
        cases mv with
        | false =>
          go_wp2_with (first|((with_reducible refine at_alloc ?_);refine st_allocf K.out (fun _=>rfl) ?_;intro ge w1 K1;have K2:=Lib.hid K1;clear K1 K;(try clear a0 l0);(try clear a1 l1);(try clear a2 l2);have K:=K2;clear K2;have a0:=K.out.rd 0 rfl;have l0:=K.out.ltp 0 rfl;have a1:=K.out.rd 1 rfl;have l1:=K.out.ltp 1 rfl)|((with_reducible refine at_store ?_);refine st_store 0 K.out rfl rfl rfl rfl ?_ ?_ ?_ ?_;(· kernel_rfl);(· simp);(· simp [Value.oneCell']);intro w1 K1;simp only [List.set,putL] at K1;have K2:=Lib.hid K1;clear K1 K;(try clear a0 l0);(try clear a1 l1);(try clear a2 l2);have K:=K2;clear K2;have a0:=K.out.rd 0 rfl;have l0:=K.out.ltp 0 rfl;have a1:=K.out.rd 1 rfl;have l1:=K.out.ltp 1 rfl))
          refine wp_region_noPanic ?_
          refine wp_region_held_drew (S:=(fun w'=>(∀ j,w'.cell? ⟨ge,j,none⟩ = e.v[j]?) ∧ (∀ j,w'.cell? ⟨gc,j,none⟩ = (audV c g1 g2)[j]?) ∧ (Instr.lookup 124 (.map (some g1)) (.int .i64 e.cell) false).run Tryz.prog w' = .ok (.int .u64 x0) w')) (by kernel_rfl) ?_ (fun hHeld=>?_)
          · ((try dsimp only);(first|(refine cellU (E:=w) (n:=n) (f:=f) (M:=[seenA g2 n g]) ?_ HC.out HX.out;first|exact K.out|exact K.out.drew)|(refine cellU (E:=w) (n:=n) (f:=f) (M:=[seenA g2 (n + 1) (seenUp c e g)]) ?_ HC.out HX.out;exact K.out)))
          refine tk 0 (some 20) ?_
          try simp only[Act.put,p0,p1,p2]
          refine tk 1 (some 21) ?_
          try simp only[Act.put,p0,p1,p2]
          refine tk 2 (some 22) ?_
          try simp only[Act.put,p0,p1,p2]
          refine tk 3 (some 23) ?_
          try simp only[Act.put,p0,p1,p2]
          refine tk 4 (some 24) ?_
          try simp only[Act.put,p0,p1,p2]
          refine tk 5 (some 25) ?_
          try simp only[Act.put,p0,p1,p2]
          refine tk 6 (some 26) ?_
          try simp only[Act.put,p0,p1,p2]
          refine tk 7 (some 27) ?_
          try simp only[Act.put,p0,p1,p2]
          refine tk 8 (some 28) ?_
          try simp only[Act.put,p0,p1,p2]
          refine tk 9 (some 29) ?_
          try simp only[Act.put,p0,p1,p2]
          refine tk 10 (some 30) ?_
          try simp only[Act.put,p0,p1,p2]
          refine tk 11 (some 31) ?_
          try simp only[Act.put,p0,p1,p2]
          refine tk 12 (some 32) ?_
          try simp only[Act.put,p0,p1,p2]
          refine wpAnyH_ready (rs:=[13]) (by kernel_rfl) (by simp) ?_
          refine AllReadyH.cons (o:=_) rfl (fun kC hkC=>?_) AllReadyH.nil
          go_simp
          (first|(go_at_call 65;(with_reducible refine (CC _ _ (by first|exact K.out.rot3|exact K.out.drew.rot3)).out.mono ?_);rintro r w1 ⟨rfl,K1⟩;replace K1:=K1.unrot3;have K2:=Lib.hid K1;clear K1 K;(try clear a0 l0);(try clear a1 l1);have K:=K2;clear K2;have a0:=K.out.rd 0 rfl;have l0:=K.out.ltp 0 rfl;have a1:=K.out.rd 1 rfl;have l1:=K.out.ltp 1 rfl))
          refine shown hkC _ _ (by (try dsimp only);(first|(refine cellU (E:=w) (n:=n) (f:=f) (M:=[seenA g2 n g]) ?_ HC.out HX.out;first|exact K.out|exact K.out.drew)|(refine cellU (E:=w) (n:=n) (f:=f) (M:=[seenA g2 (n + 1) (seenUp c e g)]) ?_ HC.out HX.out;exact K.out))) ?_;clear hkC kC hHeld;intro hHeld
          try simp only[Act.put,p0,p1,p2]
          refine tk 14 (some 34) ?_
          try simp only[Act.put,p0,p1,p2]
          refine tk 15 (some 35) ?_
          try simp only[Act.put,p0,p1,p2]
          refine wpAnyH_done (by kernel_rfl) (NoPanic.normal ?_) _
          go_wp2
          go_ret
          exact ⟨ret_i (by rw [E1.out,E2.out];simp),K.out.below⟩
        | true =>
          go_wp2_with (first|((with_reducible refine at_alloc ?_);refine st_allocf K.out (fun _=>rfl) ?_;intro ge w1 K1;have K2:=Lib.hid K1;clear K1 K;(try clear a0 l0);(try clear a1 l1);(try clear a2 l2);have K:=K2;clear K2;have a0:=K.out.rd 0 rfl;have l0:=K.out.ltp 0 rfl;have a1:=K.out.rd 1 rfl;have l1:=K.out.ltp 1 rfl)|((with_reducible refine at_store ?_);refine st_store 0 K.out rfl rfl rfl rfl ?_ ?_ ?_ ?_;(· kernel_rfl);(· simp);(· simp [Value.oneCell']);intro w1 K1;simp only [List.set,putL] at K1;have K2:=Lib.hid K1;clear K1 K;(try clear a0 l0);(try clear a1 l1);(try clear a2 l2);have K:=K2;clear K2;have a0:=K.out.rd 0 rfl;have l0:=K.out.ltp 0 rfl;have a1:=K.out.rd 1 rfl;have l1:=K.out.ltp 1 rfl))
          refine wp_region_noPanic ?_
          refine wp_region_held_drew (S:=(fun w'=>(∀ j,w'.cell? ⟨ge,j,none⟩ = e.v[j]?) ∧ (∀ j,w'.cell? ⟨gc,j,none⟩ = (audV c g1 g2)[j]?) ∧ (Instr.lookup 124 (.map (some g1)) (.int .i64 e.cell) false).run Tryz.prog w' = .ok (.int .u64 x0) w')) (by kernel_rfl) ?_ (fun hHeld=>?_)
          · ((try dsimp only);(first|(refine cellU (E:=w) (n:=n) (f:=f) (M:=[seenA g2 n g]) ?_ HC.out HX.out;first|exact K.out|exact K.out.drew)|(refine cellU (E:=w) (n:=n) (f:=f) (M:=[seenA g2 (n + 1) (seenUp c e g)]) ?_ HC.out HX.out;exact K.out)))
          refine tk 0 (some 20) ?_
          try simp only[Act.put,p0,p1,p2]
          refine tk 1 (some 21) ?_
          try simp only[Act.put,p0,p1,p2]
          refine tk 2 (some 22) ?_
          try simp only[Act.put,p0,p1,p2]
          refine tk 3 (some 23) ?_
          try simp only[Act.put,p0,p1,p2]
          refine tk 4 (some 24) ?_
          try simp only[Act.put,p0,p1,p2]
          refine tk 5 (some 25) ?_
          try simp only[Act.put,p0,p1,p2]
          refine tk 6 (some 26) ?_
          try simp only[Act.put,p0,p1,p2]
          refine tk 7 (some 27) ?_
          try simp only[Act.put,p0,p1,p2]
          refine tk 8 (some 28) ?_
          try simp only[Act.put,p0,p1,p2]
          refine tk 9 (some 29) ?_
          try simp only[Act.put,p0,p1,p2]
          refine tk 10 (some 30) ?_
          try simp only[Act.put,p0,p1,p2]
          refine tk 11 (some 31) ?_
          try simp only[Act.put,p0,p1,p2]
          refine tk 12 (some 32) ?_
          try simp only[Act.put,p0,p1,p2]
          refine wpAnyH_ready (rs:=[13]) (by kernel_rfl) (by simp) ?_
          refine AllReadyH.cons (o:=_) rfl (fun kC hkC=>?_) AllReadyH.nil
          go_simp
          (first|(go_at_call 65;(with_reducible refine (CC _ _ (by first|exact K.out.rot3|exact K.out.drew.rot3)).out.mono ?_);rintro r w1 ⟨rfl,K1⟩;replace K1:=K1.unrot3;have K2:=Lib.hid K1;clear K1 K;(try clear a0 l0);(try clear a1 l1);have K:=K2;clear K2;have a0:=K.out.rd 0 rfl;have l0:=K.out.ltp 0 rfl;have a1:=K.out.rd 1 rfl;have l1:=K.out.ltp 1 rfl))
          refine shown hkC _ _ (by (try dsimp only);(first|(refine cellU (E:=w) (n:=n) (f:=f) (M:=[seenA g2 n g]) ?_ HC.out HX.out;first|exact K.out|exact K.out.drew)|(refine cellU (E:=w) (n:=n) (f:=f) (M:=[seenA g2 (n + 1) (seenUp c e g)]) ?_ HC.out HX.out;exact K.out))) ?_;clear hkC kC hHeld;intro hHeld
          try simp only[Act.put,p0,p1,p2]
          refine tk 14 (some 34) ?_
          try simp only[Act.put,p0,p1,p2]
          refine tk 15 (some 35) ?_
          try simp only[Act.put,p0,p1,p2]
          refine wpAnyH_done (by kernel_rfl) (NoPanic.normal ?_) _
          go_wp2_with fail
          refine wp_region_noPanic ?_
          refine wp_region_held_drew (S:=(fun w'=>(∀ j,w'.cell? ⟨ge,j,none⟩ = e.v[j]?) ∧ (∀ j,w'.cell? ⟨gc,j,none⟩ = (audV c g1 g2)[j]?))) (by kernel_rfl) ?_ (fun hHeld=>?_)
          · ((try dsimp only);(first|exact ⟨K.out.rd 0 rfl,K.out.rd 1 rfl⟩|exact ⟨K.out.drew.rd 0 rfl,K.out.drew.rd 1 rfl⟩))
          refine tk 0 (some 37) ?_
          try simp only[Act.put,p0,p1,p2]
          refine tk 1 (some 38) ?_
          try simp only[Act.put,p0,p1,p2]
          refine tk 2 (some 39) ?_
          try simp only[Act.put,p0,p1,p2]
          refine tk 3 (some 40) ?_
          try simp only[Act.put,p0,p1,p2]
          refine tk 4 (some 41) ?_
          try simp only[Act.put,p0,p1,p2]
          refine tk 5 (some 42) ?_
          try simp only[Act.put,p0,p1,p2]
          refine tk 6 (some 43) ?_
          try simp only[Act.put,p0,p1,p2]
          refine tk 7 (some 44) ?_
          try simp only[Act.put,p0,p1,p2]
          refine wpAnyH_ready (rs:=[8]) (by kernel_rfl) (by simp) ?_
          refine AllReadyH.cons (o:=_) rfl (fun kC hkC=>?_) AllReadyH.nil
          (refine rg_put (E:=w) 2 (by kernel_rfl) (d:=none) rfl rfl K.out.drew rfl keyedI Tryz.underlying124 Tryz.underlying33 (by unfold maxLen;omega) rfl rfl (keyOf_int_mk Tryz.underlying3 (wf64 HC.out)) rfl HV.out ?_;intro w1 K1;simp only [List.set] at K1;have K2:=Lib.hid K1;clear K1 K a0 l0 a1 l1;have K:=K2;clear K2;have a0:=K.out.rd 0 rfl;have a1:=K.out.rd 1 rfl)
          refine shown hkC _ _ (by (try dsimp only);(first|exact ⟨K.out.rd 0 rfl,K.out.rd 1 rfl⟩|exact ⟨K.out.drew.rd 0 rfl,K.out.drew.rd 1 rfl⟩)) ?_;clear hkC kC hHeld;intro hHeld
          try simp only[Act.put,p0,p1,p2]
          refine wpAnyH_done (by kernel_rfl) (NoPanic.normal ?_) _
          go_wp2_with fail
          go_roundg gk'
          case measure=>omega
          case rel=>exact ⟨n + 1,_,_,by have:=HN.out;omega,by simp,by rw [E1.out,E2.out];simp,E3.out E2.out,K.out.drop⟩
      · have t0 : (e.old != x0) = true:=by simpa using q0
        have t9 : (e.old == x0) = false:=by simpa using q0
        rw [t9,Bool.false_and] at E2
        clear q0 t9
        go_wp2_with (first|((with_reducible refine at_alloc ?_);refine st_allocf K.out (fun _=>rfl) ?_;intro ge w1 K1;have K2:=Lib.hid K1;clear K1 K;(try clear a0 l0);(try clear a1 l1);(try clear a2 l2);have K:=K2;clear K2;have a0:=K.out.rd 0 rfl;have l0:=K.out.ltp 0 rfl;have a1:=K.out.rd 1 rfl;have l1:=K.out.ltp 1 rfl)|((with_reducible refine at_store ?_);refine st_store 0 K.out rfl rfl rfl rfl ?_ ?_ ?_ ?_;(· kernel_rfl);(· simp);(· simp [Value.oneCell']);intro w1 K1;simp only [List.set,putL] at K1;have K2:=Lib.hid K1;clear K1 K;(try clear a0 l0);(try clear a1 l1);(try clear a2 l2);have K:=K2;clear K2;have a0:=K.out.rd 0 rfl;have l0:=K.out.ltp 0 rfl;have a1:=K.out.rd 1 rfl;have l1:=K.out.ltp 1 rfl))
        refine wp_region_noPanic ?_
        refine wp_region_held_drew (S:=(fun w'=>(∀ j,w'.cell? ⟨ge,j,none⟩ = e.v[j]?) ∧ (∀ j,w'.cell? ⟨gc,j,none⟩ = (audV c g1 g2)[j]?) ∧ (Instr.lookup 124 (.map (some g1)) (.int .i64 e.cell) false).run Tryz.prog w' = .ok (.int .u64 x0) w')) (by kernel_rfl) ?_ (fun hHeld=>?_)
        · ((try dsimp only);(first|(refine cellU (E:=w) (n:=n) (f:=f) (M:=[seenA g2 n g]) ?_ HC.out HX.out;first|exact K.out|exact K.out.drew)|(refine cellU (E:=w) (n:=n) (f:=f) (M:=[seenA g2 (n + 1) (seenUp c e g)]) ?_ HC.out HX.out;exact K.out)))
        refine tk 0 (some 20) ?_
        try simp only[Act.put,p0,p1,p2]
        refine tk 1 (some 21) ?_
        try simp only[Act.put,p0,p1,p2]
        refine tk 2 (some 22) ?_
        try simp only[Act.put,p0,p1,p2]
        refine tk 3 (some 23) ?_
        try simp only[Act.put,p0,p1,p2]
        refine tk 4 (some 24) ?_
        try simp only[Act.put,p0,p1,p2]
        refine tk 5 (some 25) ?_
        try simp only[Act.put,p0,p1,p2]
        refine tk 6 (some 26) ?_
        try simp only[Act.put,p0,p1,p2]
        refine tk 7 (some 27) ?_
        try simp only[Act.put,p0,p1,p2]
        refine tk 8 (some 28) ?_
        try simp only[Act.put,p0,p1,p2]
        refine tk 9 (some 29) ?_
        try simp only[Act.put,p0,p1,p2]
        refine tk 10 (some 30) ?_
        try simp only[Act.put,p0,p1,p2]
        refine sk 11 (some 31) ?_
        try simp only[Act.put,p0,p1,p2]
        refine sk 12 (some 32) ?_
        try simp only[Act.put,p0,p1,p2]
        refine sk 13 (some 33) ?_
        try simp only[Act.put,p0,p1,p2]
        refine sk 14 (some 34) ?_
        try simp only[Act.put,p0,p1,p2]
        refine tk 15 (some 35) ?_
        try simp only[Act.put,p0,p1,p2]
        refine wpAnyH_done (by kernel_rfl) (NoPanic.normal ?_) _
        go_wp2
        go_ret
        exact ⟨ret_i (by rw [E1.out,E2.out];simp),(show sat w _ _ from (by repeat (with_reducible first|exact K.out|apply sat.alloc_any|apply sat.drew|apply sat.drewN))).below⟩
    · have hnl : n = l.length:=by omega
      subst hnl
      have d0 : decide (l.length < l.length) = false:=by simp
      have E1:=Lib.hid (show firstM c [] l = -1 from by rw [hfi,List.drop_length];rfl)
      clear hfi hA
      go_wp2
      go_ret
      exact ⟨ret_i E1.out.symm,K.out.below⟩
end
end Go.Proofs.YtegdhojhnmgjgaaGreat
