import Derived.Test.YtiladkalijonbaaAuditW
import Derived.Deep.QuietTactic
import Derived.BigQuiet
namespace Go.Proofs.Ytiladkalijonbaa
open Go.RowKit Go.SepYtiladkalijonbaa Go.Maps
set_option linter.unusedSimpArgs false
set_option linter.unusedVariables false
set_option maxRecDepth 100000
set_option maxHeartbeats 4000000
section
variable {E w : World} {L : List SA} {A B C D : SA}
theorem _root_.Go.SepYtiladkalijonbaa.sat.rot3 (h : sat E w (D :: A :: B :: C :: L)) : sat E w (A :: B :: C :: D :: L) := h.perm ((List.Perm.swap A D _).trans (List.Perm.cons A ((List.Perm.swap B D _).trans (List.Perm.cons B (List.Perm.swap C D _)))))
theorem _root_.Go.SepYtiladkalijonbaa.sat.unrot3 (h : sat E w (A :: B :: C :: D :: L)) : sat E w (D :: A :: B :: C :: L) := h.pick 3 rfl
end
section
variable {E w : World} {L : List SA}
theorem seenS {ge gw a bc bs n m : Nat} {x : WordM} {e : Ev} {c : ConfM} {f g : Lit → Option Int} {M : List SA} (h : sat E w (wordA gw x :: evA ge e :: audA a c bc bs :: cellsA bc n f :: seenA bs m g :: M)) {slot who : Int} (h1 : w64P who) (h2 : w64P slot) {gk : Option Int} (hg : g (pairKey who slot) = gk) :
    (∀ j, w.cell? ⟨ge, j, none⟩ = e.v[j]?) ∧ (∀ j, w.cell? ⟨a, j, none⟩ = (audV c bc bs)[j]?) ∧ (Instr.lookup 74 (.map (some bs)) (.agg #[.int .i64 who, .int .i64 slot]) true).run Try.prog w = .ok (.tuple #[.int .i64 (gk.getD 0), .bool gk.isSome]) w := by
  subst hg
  exact ⟨h.rd 1 rfl, h.rd 2 rfl, look_seen (h.pick 4 rfl) h1 h2⟩
theorem cellS {ge gw a bc bs n m : Nat} {x : WordM} {e : Ev} {c : ConfM} {f : Lit → Option Int} {M : List SA} (h : sat E w (wordA gw x :: evA ge e :: audA a c bc bs :: cellsA bc n f :: M)) {i : Int} (h1 : w64P i) :
    (∀ j, w.cell? ⟨gw, j, none⟩ = (wordL x)[j]?) ∧ (∀ j, w.cell? ⟨ge, j, none⟩ = e.v[j]?) ∧ (∀ j, w.cell? ⟨a, j, none⟩ = (audV c bc bs)[j]?) ∧ (Instr.lookup 73 (.map (some bc)) (.int .i64 i) false).run Try.prog w = .ok (.int .u64 ((f (.int .i64 i)).getD 0)) w :=
  ⟨h.rd 0 rfl, h.rd 1 rfl, h.rd 2 rfl, look_cells (h.pick 3 rfl) h1⟩
theorem cellT {ge gw a bc bs : Nat} {x : WordM} {e : Ev} {c : ConfM} {M : List SA} (h : sat E w (wordA gw x :: evA ge e :: audA a c bc bs :: M)) :
    (∀ j, w.cell? ⟨gw, j, none⟩ = (wordL x)[j]?) ∧ (∀ j, w.cell? ⟨ge, j, none⟩ = e.v[j]?) ∧ (∀ j, w.cell? ⟨a, j, none⟩ = (audV c bc bs)[j]?) :=
  ⟨h.rd 0 rfl, h.rd 1 rfl, h.rd 2 rfl⟩
theorem ofValue_calls (c : ConfM) (hc : c.ok) (a bc bs n m : Nat) (f g : Lit → Option Int) (slot : Int) (h0 : 0 ≤ slot) (h1 : slot < c.all) (e : Ev) (he : Ev.wf e) (hw0 : 0 ≤ e.who) (hw1 : e.who < c.th)
    (hf : ∀ i, 0 ≤ (f (.int .i64 i)).getD 0 ∧ (f (.int .i64 i)).getD 0 < 18446744073709551616)
    (h : sat E w (audA a c bc bs :: cellsA bc n f :: seenA bs m g :: L)) :
    Calls Try.prog 32 #[.pointer (some ⟨a, 0, none⟩), .agg e.v.toArray, .int .i64 slot] w fun r w' => r = .returned (.bool (valueB c (fun i => (f (.int .i64 i)).getD 0) (g (pairKey e.who slot)) e slot)) ∧ sat E w' (audA a c bc bs :: cellsA bc n f :: seenA bs m g :: L) := by
  have hal := hc.all_bd
  obtain ⟨e1, e2, e3, e4⟩ := he
  have K := Lib.hid h
  have a0 := h.rd 0 rfl
  have l0 := h.ltp 0 rfl
  have AW := fun w' (D : SA) (h : sat E w' (audA a c bc bs :: cellsA bc n f :: seenA bs m g :: D :: L)) => Lib.hid (aword_calls c hc a bc bs n m f g slot h0 h1 hf h)
  have HZ := fun w' => Lib.hid (hazard_calls c w' hc e.who hw0 hw1)
  have OW := fun w' => Lib.hid (owner_calls c w' hc slot h0 h1)
  have hth := hc.th2
  have HH := Lib.hid (show w64P (c.hazard e.who) by unfold w64P ConfM.hazard; omega)
  have HS := Lib.hid (show w64P slot by unfold w64P; omega)
  have HE := Lib.hid (show w64P e.who from e1)
  have i1 : IntKind.i64.wrap (slot + 1) = slot + 1 := wi (by omega) (by omega)
  have i2 : IntKind.u64.wrap (slot + 1) = u64M (slot + 1) := by rw [IntKind.wrap_u64]; rfl
  clear h e1 e2 e3 e4 hf hal hth hw0 hw1 hc
  unfold valueB
  generalize u64M (slot + 1) = sx at *
  generalize hgk : g (pairKey e.who slot) = gk at *
  have HG := Lib.hid hgk
  clear hgk
  generalize hwd : unpack ((f (.int .i64 slot)).getD 0) = wd at *
  clear hwd
  by_cases o0 : e.op = 0
  · have t0 : (e.op == 0) = true := by simpa using o0
    rw [if_pos o0]
    clear o0
    cases gk with
    | none =>
      go_enter Try.func32, Try.ntmps32
      go_wp2_with (first | ((with_reducible refine at_box ?_); refine st_boxf K.out rfl rfl (fun _ => rfl) ?_; intro ge w1 K1; have K2 := Lib.hid K1; clear K1 K; (try clear a0); (try clear l0); (try clear a1); (try clear l1); (try clear a2); (try clear l2); have K := K2; clear K2; have a0 := K.out.rd 0 rfl; have l0 := K.out.ltp 0 rfl; have a1 := K.out.rd 1 rfl; have l1 := K.out.ltp 1 rfl) | (go_at_call 44; (with_reducible refine (AW _ _ K.out.rot3).out.mono ?_); rintro r w1 ⟨rfl, K1⟩; replace K1 := K1.unrot3; have K2 := Lib.hid K1; clear K1 K a0 l0 a1 l1; have K := K2; clear K2; have a0 := K.out.rd 0 rfl; have l0 := K.out.ltp 0 rfl; have a1 := K.out.rd 1 rfl; have l1 := K.out.ltp 1 rfl) | ((with_reducible refine at_alloc ?_); refine st_allocf K.out (fun _ => rfl) ?_; intro gw w1 K1; have K2 := Lib.hid K1; clear K1 K; (try clear a0); (try clear l0); (try clear a1); (try clear l1); (try clear a2); (try clear l2); have K := K2; clear K2; have a0 := K.out.rd 0 rfl; have l0 := K.out.ltp 0 rfl; have a1 := K.out.rd 1 rfl; have l1 := K.out.ltp 1 rfl; have a2 := K.out.rd 2 rfl; have l2 := K.out.ltp 2 rfl) | ((with_reducible refine at_store ?_); refine st_store 0 K.out rfl rfl rfl rfl ?_ ?_ ?_ ?_; (· kernel_rfl); (· simp); (· simp [Value.oneCell']); intro w1 K1; simp only [List.set, putL] at K1; have K2 := Lib.hid K1; clear K1 K; (try clear a0); (try clear l0); (try clear a1); (try clear l1); (try clear a2); (try clear l2); have K := K2; clear K2; have a0 := K.out.rd 0 rfl; have l0 := K.out.ltp 0 rfl; have a1 := K.out.rd 1 rfl; have l1 := K.out.ltp 1 rfl; have a2 := K.out.rd 2 rfl; have l2 := K.out.ltp 2 rfl))
      have K1 : sat E _ (wordA gw wd :: evA ge e :: audA a c bc bs :: cellsA bc n f :: seenA bs m g :: L) := K.out
      clear K
      have K := Lib.hid K1
      clear K1
      go_region_held3 (fun w' => (∀ j, w'.cell? ⟨ge, j, none⟩ = e.v[j]?) ∧ (∀ j, w'.cell? ⟨a, j, none⟩ = (audV c bc bs)[j]?) ∧ (Instr.lookup 74 (.map (some bs)) (.agg #[.int .i64 e.who, .int .i64 slot]) true).run Try.prog w' = .ok (.tuple #[.int .i64 0, .bool false]) w') ((refine seenS (E := E) (gw := gw) (n := n) (m := m) (f := f) (g := g) (x := wd) (M := L) (gk := none) ?_ HE.out HS.out HG.out; exact (by repeat (with_reducible first | exact K.out | apply sat.alloc_any | apply sat.drew | apply sat.drewN)))) (fail)
      clear ‹_ ∧ _ ∧ Sem.run _ _ _ = _›
      have K1 : sat E _ _ := K.out.drew
      clear K a0 l0 a1 l1 a2 l2
      have K := Lib.hid K1
      clear K1
      have a0 := K.out.rd 0 rfl
      have a1 := K.out.rd 1 rfl
      have a2 := K.out.rd 2 rfl
      go_wp2_with fail
      refine wp_region_noPanic ?_
      refine wp_region_held_drew (S := (fun w' => (∀ j, w'.cell? ⟨gw, j, none⟩ = (wordL wd)[j]?) ∧ (∀ j, w'.cell? ⟨ge, j, none⟩ = e.v[j]?) ∧ (∀ j, w'.cell? ⟨a, j, none⟩ = (audV c bc bs)[j]?) ∧ (Instr.lookup 73 (.map (some bc)) (.int .i64 (c.hazard e.who)) false).run Try.prog w' = .ok (.int .u64 ((f (.int .i64 (c.hazard e.who))).getD 0)) w')) (by kernel_rfl) ?_ (fun hHeld => ?_)
      · ((try dsimp only); (refine cellS (E := E) (m := 0) (n := n) (f := f) (x := wd) (e := e) (c := c) (M := seenA bs m g :: L) ?_ HH.out; exact (by repeat (with_reducible first | exact K.out | apply sat.alloc_any | apply sat.drew | apply sat.drewN))))
      refine tk 0 (some 29) ?_
      (try simp only [Act.put, p0, p1, p2])
      refine tk 1 (some 30) ?_
      (try simp only [Act.put, p0, p1, p2])
      refine sk 2 (some 31) ?_
      (try simp only [Act.put, p0, p1, p2])
      refine sk 3 (some 32) ?_
      (try simp only [Act.put, p0, p1, p2])
      refine sk 4 (some 33) ?_
      (try simp only [Act.put, p0, p1, p2])
      refine sk 5 (some 34) ?_
      (try simp only [Act.put, p0, p1, p2])
      refine tk 6 (some 35) ?_
      (try simp only [Act.put, p0, p1, p2])
      refine tk 7 (some 36) ?_
      (try simp only [Act.put, p0, p1, p2])
      refine sk 8 (some 37) ?_
      (try simp only [Act.put, p0, p1, p2])
      refine sk 9 (some 38) ?_
      (try simp only [Act.put, p0, p1, p2])
      refine sk 10 (some 39) ?_
      (try simp only [Act.put, p0, p1, p2])
      refine sk 11 (some 40) ?_
      (try simp only [Act.put, p0, p1, p2])
      refine sk 12 (some 41) ?_
      (try simp only [Act.put, p0, p1, p2])
      refine sk 13 (some 42) ?_
      (try simp only [Act.put, p0, p1, p2])
      refine sk 14 (some 43) ?_
      (try simp only [Act.put, p0, p1, p2])
      refine sk 15 (some 44) ?_
      (try simp only [Act.put, p0, p1, p2])
      refine sk 16 (some 45) ?_
      (try simp only [Act.put, p0, p1, p2])
      refine sk 17 (some 46) ?_
      (try simp only [Act.put, p0, p1, p2])
      refine sk 18 (some 47) ?_
      (try simp only [Act.put, p0, p1, p2])
      refine sk 19 (some 48) ?_
      (try simp only [Act.put, p0, p1, p2])
      refine sk 20 (some 49) ?_
      (try simp only [Act.put, p0, p1, p2])
      refine sk 21 (some 50) ?_
      (try simp only [Act.put, p0, p1, p2])
      refine sk 22 (some 51) ?_
      (try simp only [Act.put, p0, p1, p2])
      refine sk 23 (some 52) ?_
      (try simp only [Act.put, p0, p1, p2])
      refine tk 24 (some 53) ?_
      (try simp only [Act.put, p0, p1, p2])
      refine tk 25 (some 6) ?_
      (try simp only [Act.put, p0, p1, p2])
      refine wpAnyH_done (by kernel_rfl) (NoPanic.normal ?_) _
      go_wp2
      go_ret
      exact ⟨ret_b (by simp_all), (show sat E _ _ from (by repeat (with_reducible first | exact K.out | apply sat.alloc_any | apply sat.drew | apply sat.drewN))).drop.drop⟩
    | some gn =>
      by_cases q1 : gn = wd.gen
      · have q2 : (gn == wd.gen) = true := by simpa using q1
        clear q1
        go_enter Try.func32, Try.ntmps32
        go_wp2_with (first | ((with_reducible refine at_box ?_); refine st_boxf K.out rfl rfl (fun _ => rfl) ?_; intro ge w1 K1; have K2 := Lib.hid K1; clear K1 K; (try clear a0); (try clear l0); (try clear a1); (try clear l1); (try clear a2); (try clear l2); have K := K2; clear K2; have a0 := K.out.rd 0 rfl; have l0 := K.out.ltp 0 rfl; have a1 := K.out.rd 1 rfl; have l1 := K.out.ltp 1 rfl) | (go_at_call 44; (with_reducible refine (AW _ _ K.out.rot3).out.mono ?_); rintro r w1 ⟨rfl, K1⟩; replace K1 := K1.unrot3; have K2 := Lib.hid K1; clear K1 K a0 l0 a1 l1; have K := K2; clear K2; have a0 := K.out.rd 0 rfl; have l0 := K.out.ltp 0 rfl; have a1 := K.out.rd 1 rfl; have l1 := K.out.ltp 1 rfl) | ((with_reducible refine at_alloc ?_); refine st_allocf K.out (fun _ => rfl) ?_; intro gw w1 K1; have K2 := Lib.hid K1; clear K1 K; (try clear a0); (try clear l0); (try clear a1); (try clear l1); (try clear a2); (try clear l2); have K := K2; clear K2; have a0 := K.out.rd 0 rfl; have l0 := K.out.ltp 0 rfl; have a1 := K.out.rd 1 rfl; have l1 := K.out.ltp 1 rfl; have a2 := K.out.rd 2 rfl; have l2 := K.out.ltp 2 rfl) | ((with_reducible refine at_store ?_); refine st_store 0 K.out rfl rfl rfl rfl ?_ ?_ ?_ ?_; (· kernel_rfl); (· simp); (· simp [Value.oneCell']); intro w1 K1; simp only [List.set, putL] at K1; have K2 := Lib.hid K1; clear K1 K; (try clear a0); (try clear l0); (try clear a1); (try clear l1); (try clear a2); (try clear l2); have K := K2; clear K2; have a0 := K.out.rd 0 rfl; have l0 := K.out.ltp 0 rfl; have a1 := K.out.rd 1 rfl; have l1 := K.out.ltp 1 rfl; have a2 := K.out.rd 2 rfl; have l2 := K.out.ltp 2 rfl))
        have K1 : sat E _ (wordA gw wd :: evA ge e :: audA a c bc bs :: cellsA bc n f :: seenA bs m g :: L) := K.out
        clear K
        have K := Lib.hid K1
        clear K1
        go_region_held3 (fun w' => (∀ j, w'.cell? ⟨ge, j, none⟩ = e.v[j]?) ∧ (∀ j, w'.cell? ⟨a, j, none⟩ = (audV c bc bs)[j]?) ∧ (Instr.lookup 74 (.map (some bs)) (.agg #[.int .i64 e.who, .int .i64 slot]) true).run Try.prog w' = .ok (.tuple #[.int .i64 gn, .bool true]) w') ((refine seenS (E := E) (gw := gw) (n := n) (m := m) (f := f) (g := g) (x := wd) (M := L) (gk := some gn) ?_ HE.out HS.out HG.out; exact (by repeat (with_reducible first | exact K.out | apply sat.alloc_any | apply sat.drew | apply sat.drewN)))) (fail)
        clear ‹_ ∧ _ ∧ Sem.run _ _ _ = _›
        have K1 : sat E _ _ := K.out.drew
        clear K a0 l0 a1 l1 a2 l2
        have K := Lib.hid K1
        clear K1
        have a0 := K.out.rd 0 rfl
        have a1 := K.out.rd 1 rfl
        have a2 := K.out.rd 2 rfl
        go_wp2_with fail
        refine wp_region_noPanic ?_
        refine wp_region_held_drew (S := (fun w' => (∀ j, w'.cell? ⟨gw, j, none⟩ = (wordL wd)[j]?) ∧ (∀ j, w'.cell? ⟨ge, j, none⟩ = e.v[j]?) ∧ (∀ j, w'.cell? ⟨a, j, none⟩ = (audV c bc bs)[j]?) ∧ (Instr.lookup 73 (.map (some bc)) (.int .i64 (c.hazard e.who)) false).run Try.prog w' = .ok (.int .u64 ((f (.int .i64 (c.hazard e.who))).getD 0)) w')) (by kernel_rfl) ?_ (fun hHeld => ?_)
        · ((try dsimp only); (refine cellS (E := E) (m := 0) (n := n) (f := f) (x := wd) (e := e) (c := c) (M := seenA bs m g :: L) ?_ HH.out; exact (by repeat (with_reducible first | exact K.out | apply sat.alloc_any | apply sat.drew | apply sat.drewN))))
        refine tk 0 (some 29) ?_
        (try simp only [Act.put, p0, p1, p2])
        refine tk 1 (some 30) ?_
        (try simp only [Act.put, p0, p1, p2])
        refine tk 2 (some 31) ?_
        (try simp only [Act.put, p0, p1, p2])
        refine tk 3 (some 32) ?_
        (try simp only [Act.put, p0, p1, p2])
        refine tk 4 (some 33) ?_
        (try simp only [Act.put, p0, p1, p2])
        refine tk 5 (some 34) ?_
        (try simp only [Act.put, p0, p1, p2])
        refine tk 6 (some 35) ?_
        (try simp only [Act.put, p0, p1, p2])
        refine tk 7 (some 36) ?_
        (try simp only [Act.put, p0, p1, p2])
        refine tk 8 (some 37) ?_
        (try simp only [Act.put, p0, p1, p2])
        refine tk 9 (some 38) ?_
        (try simp only [Act.put, p0, p1, p2])
        refine tk 10 (some 39) ?_
        (try simp only [Act.put, p0, p1, p2])
        refine tk 11 (some 40) ?_
        (try simp only [Act.put, p0, p1, p2])
        refine tk 12 (some 41) ?_
        (try simp only [Act.put, p0, p1, p2])
        refine tk 13 (some 42) ?_
        (try simp only [Act.put, p0, p1, p2])
        refine tk 14 (some 43) ?_
        (try simp only [Act.put, p0, p1, p2])
        refine tk 15 (some 44) ?_
        (try simp only [Act.put, p0, p1, p2])
        refine tk 16 (some 45) ?_
        (try simp only [Act.put, p0, p1, p2])
        refine tk 17 (some 46) ?_
        (try simp only [Act.put, p0, p1, p2])
        refine tk 20 (some 49) ?_
        (try simp only [Act.put, p0, p1, p2])
        refine tk 21 (some 50) ?_
        (try simp only [Act.put, p0, p1, p2])
        refine tk 22 (some 51) ?_
        (try simp only [Act.put, p0, p1, p2])
        refine wpAnyH_ready (rs := [18]) (by kernel_rfl) (by simp) ?_
        refine AllReadyH.cons (o := _) rfl (fun kC hkC => ?_) AllReadyH.nil
        go_simp
        (first | (go_at_call 45; (with_reducible refine ((HZ _).out).mono ?_); rintro e w1 ⟨rfl, hb⟩; have K1 := sat.grown (by repeat (with_reducible first | exact K.out | apply sat.alloc_any | apply sat.drew | apply sat.drewN)) hb; clear hb; have K2 := Lib.hid K1; clear K1 K; (try clear a0); (try clear l0); (try clear a1); (try clear l1); (try clear a2); (try clear l2); have K := K2; clear K2; have a0 := K.out.rd 0 rfl; have l0 := K.out.ltp 0 rfl; have a1 := K.out.rd 1 rfl; have l1 := K.out.ltp 1 rfl; have a2 := K.out.rd 2 rfl; have l2 := K.out.ltp 2 rfl))
        refine shown hkC _ _ (by (try dsimp only); (refine cellS (E := E) (m := 0) (n := n) (f := f) (x := wd) (e := e) (c := c) (M := seenA bs m g :: L) ?_ HH.out; exact (by repeat (with_reducible first | exact K.out | apply sat.alloc_any | apply sat.drew | apply sat.drewN)))) ?_; clear hkC kC hHeld; intro hHeld
        (try simp only [Act.put, p0, p1, p2])
        refine tk 19 (some 48) ?_
        (try simp only [Act.put, p0, p1, p2])
        refine tk 23 (some 52) ?_
        (try simp only [Act.put, p0, p1, p2])
        refine tk 24 (some 53) ?_
        (try simp only [Act.put, p0, p1, p2])
        refine tk 25 (some 6) ?_
        (try simp only [Act.put, p0, p1, p2])
        refine wpAnyH_done (by kernel_rfl) (NoPanic.normal ?_) _
        go_wp2
        go_ret
        exact ⟨ret_b (by simp_all), (show sat E _ _ from (by repeat (with_reducible first | exact K.out | apply sat.alloc_any | apply sat.drew | apply sat.drewN))).drop.drop⟩
      · have q2 : (gn == wd.gen) = false := by simpa using q1
        clear q1
        go_enter Try.func32, Try.ntmps32
        go_wp2_with (first | ((with_reducible refine at_box ?_); refine st_boxf K.out rfl rfl (fun _ => rfl) ?_; intro ge w1 K1; have K2 := Lib.hid K1; clear K1 K; (try clear a0); (try clear l0); (try clear a1); (try clear l1); (try clear a2); (try clear l2); have K := K2; clear K2; have a0 := K.out.rd 0 rfl; have l0 := K.out.ltp 0 rfl; have a1 := K.out.rd 1 rfl; have l1 := K.out.ltp 1 rfl) | (go_at_call 44; (with_reducible refine (AW _ _ K.out.rot3).out.mono ?_); rintro r w1 ⟨rfl, K1⟩; replace K1 := K1.unrot3; have K2 := Lib.hid K1; clear K1 K a0 l0 a1 l1; have K := K2; clear K2; have a0 := K.out.rd 0 rfl; have l0 := K.out.ltp 0 rfl; have a1 := K.out.rd 1 rfl; have l1 := K.out.ltp 1 rfl) | ((with_reducible refine at_alloc ?_); refine st_allocf K.out (fun _ => rfl) ?_; intro gw w1 K1; have K2 := Lib.hid K1; clear K1 K; (try clear a0); (try clear l0); (try clear a1); (try clear l1); (try clear a2); (try clear l2); have K := K2; clear K2; have a0 := K.out.rd 0 rfl; have l0 := K.out.ltp 0 rfl; have a1 := K.out.rd 1 rfl; have l1 := K.out.ltp 1 rfl; have a2 := K.out.rd 2 rfl; have l2 := K.out.ltp 2 rfl) | ((with_reducible refine at_store ?_); refine st_store 0 K.out rfl rfl rfl rfl ?_ ?_ ?_ ?_; (· kernel_rfl); (· simp); (· simp [Value.oneCell']); intro w1 K1; simp only [List.set, putL] at K1; have K2 := Lib.hid K1; clear K1 K; (try clear a0); (try clear l0); (try clear a1); (try clear l1); (try clear a2); (try clear l2); have K := K2; clear K2; have a0 := K.out.rd 0 rfl; have l0 := K.out.ltp 0 rfl; have a1 := K.out.rd 1 rfl; have l1 := K.out.ltp 1 rfl; have a2 := K.out.rd 2 rfl; have l2 := K.out.ltp 2 rfl))
        have K1 : sat E _ (wordA gw wd :: evA ge e :: audA a c bc bs :: cellsA bc n f :: seenA bs m g :: L) := K.out
        clear K
        have K := Lib.hid K1
        clear K1
        go_region_held3 (fun w' => (∀ j, w'.cell? ⟨ge, j, none⟩ = e.v[j]?) ∧ (∀ j, w'.cell? ⟨a, j, none⟩ = (audV c bc bs)[j]?) ∧ (Instr.lookup 74 (.map (some bs)) (.agg #[.int .i64 e.who, .int .i64 slot]) true).run Try.prog w' = .ok (.tuple #[.int .i64 gn, .bool true]) w') ((refine seenS (E := E) (gw := gw) (n := n) (m := m) (f := f) (g := g) (x := wd) (M := L) (gk := some gn) ?_ HE.out HS.out HG.out; exact (by repeat (with_reducible first | exact K.out | apply sat.alloc_any | apply sat.drew | apply sat.drewN)))) (fail)
        clear ‹_ ∧ _ ∧ Sem.run _ _ _ = _›
        have K1 : sat E _ _ := K.out.drew
        clear K a0 l0 a1 l1 a2 l2
        have K := Lib.hid K1
        clear K1
        have a0 := K.out.rd 0 rfl
        have a1 := K.out.rd 1 rfl
        have a2 := K.out.rd 2 rfl
        go_wp2_with fail
        refine wp_region_noPanic ?_
        refine wp_region_held_drew (S := (fun w' => (∀ j, w'.cell? ⟨gw, j, none⟩ = (wordL wd)[j]?) ∧ (∀ j, w'.cell? ⟨ge, j, none⟩ = e.v[j]?) ∧ (∀ j, w'.cell? ⟨a, j, none⟩ = (audV c bc bs)[j]?) ∧ (Instr.lookup 73 (.map (some bc)) (.int .i64 (c.hazard e.who)) false).run Try.prog w' = .ok (.int .u64 ((f (.int .i64 (c.hazard e.who))).getD 0)) w')) (by kernel_rfl) ?_ (fun hHeld => ?_)
        · ((try dsimp only); (refine cellS (E := E) (m := 0) (n := n) (f := f) (x := wd) (e := e) (c := c) (M := seenA bs m g :: L) ?_ HH.out; exact (by repeat (with_reducible first | exact K.out | apply sat.alloc_any | apply sat.drew | apply sat.drewN))))
        refine tk 0 (some 29) ?_
        (try simp only [Act.put, p0, p1, p2])
        refine tk 1 (some 30) ?_
        (try simp only [Act.put, p0, p1, p2])
        refine tk 2 (some 31) ?_
        (try simp only [Act.put, p0, p1, p2])
        refine tk 3 (some 32) ?_
        (try simp only [Act.put, p0, p1, p2])
        refine tk 4 (some 33) ?_
        (try simp only [Act.put, p0, p1, p2])
        refine tk 5 (some 34) ?_
        (try simp only [Act.put, p0, p1, p2])
        refine tk 6 (some 35) ?_
        (try simp only [Act.put, p0, p1, p2])
        refine tk 7 (some 36) ?_
        (try simp only [Act.put, p0, p1, p2])
        refine sk 8 (some 37) ?_
        (try simp only [Act.put, p0, p1, p2])
        refine sk 9 (some 38) ?_
        (try simp only [Act.put, p0, p1, p2])
        refine sk 10 (some 39) ?_
        (try simp only [Act.put, p0, p1, p2])
        refine sk 11 (some 40) ?_
        (try simp only [Act.put, p0, p1, p2])
        refine sk 12 (some 41) ?_
        (try simp only [Act.put, p0, p1, p2])
        refine sk 13 (some 42) ?_
        (try simp only [Act.put, p0, p1, p2])
        refine sk 14 (some 43) ?_
        (try simp only [Act.put, p0, p1, p2])
        refine sk 15 (some 44) ?_
        (try simp only [Act.put, p0, p1, p2])
        refine sk 16 (some 45) ?_
        (try simp only [Act.put, p0, p1, p2])
        refine sk 17 (some 46) ?_
        (try simp only [Act.put, p0, p1, p2])
        refine sk 18 (some 47) ?_
        (try simp only [Act.put, p0, p1, p2])
        refine sk 19 (some 48) ?_
        (try simp only [Act.put, p0, p1, p2])
        refine sk 20 (some 49) ?_
        (try simp only [Act.put, p0, p1, p2])
        refine sk 21 (some 50) ?_
        (try simp only [Act.put, p0, p1, p2])
        refine sk 22 (some 51) ?_
        (try simp only [Act.put, p0, p1, p2])
        refine sk 23 (some 52) ?_
        (try simp only [Act.put, p0, p1, p2])
        refine tk 24 (some 53) ?_
        (try simp only [Act.put, p0, p1, p2])
        refine tk 25 (some 6) ?_
        (try simp only [Act.put, p0, p1, p2])
        refine wpAnyH_done (by kernel_rfl) (NoPanic.normal ?_) _
        go_wp2
        go_ret
        exact ⟨ret_b (by simp_all), (show sat E _ _ from (by repeat (with_reducible first | exact K.out | apply sat.alloc_any | apply sat.drew | apply sat.drewN))).drop.drop⟩
  rw [if_neg o0]
  have t0 : (e.op == 0) = false := by simpa using o0
  clear o0
  by_cases o1 : e.op = 1
  · have t1 : (e.op == 1) = true := by simpa using o1
    rw [if_pos o1]
    clear o1
    by_cases q3 : e.who = ownerM c slot
    · have q4 : (e.who == ownerM c slot) = true := by simpa using q3
      clear q3
      go_enter Try.func32, Try.ntmps32
      go_wp2_with (first | ((with_reducible refine at_box ?_); refine st_boxf K.out rfl rfl (fun _ => rfl) ?_; intro ge w1 K1; have K2 := Lib.hid K1; clear K1 K; (try clear a0); (try clear l0); (try clear a1); (try clear l1); (try clear a2); (try clear l2); have K := K2; clear K2; have a0 := K.out.rd 0 rfl; have l0 := K.out.ltp 0 rfl; have a1 := K.out.rd 1 rfl; have l1 := K.out.ltp 1 rfl) | (go_at_call 44; (with_reducible refine (AW _ _ K.out.rot3).out.mono ?_); rintro r w1 ⟨rfl, K1⟩; replace K1 := K1.unrot3; have K2 := Lib.hid K1; clear K1 K a0 l0 a1 l1; have K := K2; clear K2; have a0 := K.out.rd 0 rfl; have l0 := K.out.ltp 0 rfl; have a1 := K.out.rd 1 rfl; have l1 := K.out.ltp 1 rfl) | ((with_reducible refine at_alloc ?_); refine st_allocf K.out (fun _ => rfl) ?_; intro gw w1 K1; have K2 := Lib.hid K1; clear K1 K; (try clear a0); (try clear l0); (try clear a1); (try clear l1); (try clear a2); (try clear l2); have K := K2; clear K2; have a0 := K.out.rd 0 rfl; have l0 := K.out.ltp 0 rfl; have a1 := K.out.rd 1 rfl; have l1 := K.out.ltp 1 rfl; have a2 := K.out.rd 2 rfl; have l2 := K.out.ltp 2 rfl) | ((with_reducible refine at_store ?_); refine st_store 0 K.out rfl rfl rfl rfl ?_ ?_ ?_ ?_; (· kernel_rfl); (· simp); (· simp [Value.oneCell']); intro w1 K1; simp only [List.set, putL] at K1; have K2 := Lib.hid K1; clear K1 K; (try clear a0); (try clear l0); (try clear a1); (try clear l1); (try clear a2); (try clear l2); have K := K2; clear K2; have a0 := K.out.rd 0 rfl; have l0 := K.out.ltp 0 rfl; have a1 := K.out.rd 1 rfl; have l1 := K.out.ltp 1 rfl; have a2 := K.out.rd 2 rfl; have l2 := K.out.ltp 2 rfl))
      have K1 : sat E _ (wordA gw wd :: evA ge e :: audA a c bc bs :: cellsA bc n f :: seenA bs m g :: L) := K.out
      clear K
      have K := Lib.hid K1
      clear K1
      refine wp_region_noPanic ?_
      refine wp_region_held_drew (S := (fun w' => (∀ j, w'.cell? ⟨gw, j, none⟩ = (wordL wd)[j]?) ∧ (∀ j, w'.cell? ⟨ge, j, none⟩ = e.v[j]?) ∧ (∀ j, w'.cell? ⟨a, j, none⟩ = (audV c bc bs)[j]?))) (by kernel_rfl) ?_ (fun hHeld => ?_)
      · ((try dsimp only); (refine cellT (E := E) (c := c) (e := e) (x := wd) (M := cellsA bc n f :: seenA bs m g :: L) ?_; exact (by repeat (with_reducible first | exact K.out | apply sat.alloc_any | apply sat.drew | apply sat.drewN))))
      refine tk 0 (some 56) ?_
      (try simp only [Act.put, p0, p1, p2])
      refine tk 1 (some 57) ?_
      (try simp only [Act.put, p0, p1, p2])
      refine tk 2 (some 58) ?_
      (try simp only [Act.put, p0, p1, p2])
      refine tk 3 (some 59) ?_
      (try simp only [Act.put, p0, p1, p2])
      refine tk 4 (some 60) ?_
      (try simp only [Act.put, p0, p1, p2])
      refine tk 5 (some 61) ?_
      (try simp only [Act.put, p0, p1, p2])
      refine tk 6 (some 62) ?_
      (try simp only [Act.put, p0, p1, p2])
      refine wpAnyH_ready (rs := [7]) (by kernel_rfl) (by simp) ?_
      refine AllReadyH.cons (o := _) rfl (fun kC hkC => ?_) AllReadyH.nil
      go_simp
      (first | (go_at_call 41; (with_reducible refine ((OW _).out).mono ?_); rintro e w1 ⟨rfl, hb⟩; have K1 := sat.grown (by repeat (with_reducible first | exact K.out | apply sat.alloc_any | apply sat.drew | apply sat.drewN)) hb; clear hb; have K2 := Lib.hid K1; clear K1 K; (try clear a0); (try clear l0); (try clear a1); (try clear l1); (try clear a2); (try clear l2); have K := K2; clear K2; have a0 := K.out.rd 0 rfl; have l0 := K.out.ltp 0 rfl; have a1 := K.out.rd 1 rfl; have l1 := K.out.ltp 1 rfl; have a2 := K.out.rd 2 rfl; have l2 := K.out.ltp 2 rfl))
      refine shown hkC _ _ (by (try dsimp only); (refine cellT (E := E) (c := c) (e := e) (x := wd) (M := cellsA bc n f :: seenA bs m g :: L) ?_; exact (by repeat (with_reducible first | exact K.out | apply sat.alloc_any | apply sat.drew | apply sat.drewN)))) ?_; clear hkC kC hHeld; intro hHeld
      (try simp only [Act.put, p0, p1, p2])
      refine tk 8 (some 64) ?_
      (try simp only [Act.put, p0, p1, p2])
      refine tk 9 (some 65) ?_
      (try simp only [Act.put, p0, p1, p2])
      refine tk 10 (some 66) ?_
      (try simp only [Act.put, p0, p1, p2])
      refine tk 11 (some 67) ?_
      (try simp only [Act.put, p0, p1, p2])
      refine tk 12 (some 68) ?_
      (try simp only [Act.put, p0, p1, p2])
      refine tk 13 (some 69) ?_
      (try simp only [Act.put, p0, p1, p2])
      refine tk 14 (some 6) ?_
      (try simp only [Act.put, p0, p1, p2])
      refine wpAnyH_done (by kernel_rfl) (NoPanic.normal ?_) _
      go_wp2
      go_ret
      exact ⟨ret_b (by simp_all), (show sat E _ _ from (by repeat (with_reducible first | exact K.out | apply sat.alloc_any | apply sat.drew | apply sat.drewN))).drop.drop⟩
    · have q4 : (e.who == ownerM c slot) = false := by simpa using q3
      clear q3
      go_enter Try.func32, Try.ntmps32
      go_wp2_with (first | ((with_reducible refine at_box ?_); refine st_boxf K.out rfl rfl (fun _ => rfl) ?_; intro ge w1 K1; have K2 := Lib.hid K1; clear K1 K; (try clear a0); (try clear l0); (try clear a1); (try clear l1); (try clear a2); (try clear l2); have K := K2; clear K2; have a0 := K.out.rd 0 rfl; have l0 := K.out.ltp 0 rfl; have a1 := K.out.rd 1 rfl; have l1 := K.out.ltp 1 rfl) | (go_at_call 44; (with_reducible refine (AW _ _ K.out.rot3).out.mono ?_); rintro r w1 ⟨rfl, K1⟩; replace K1 := K1.unrot3; have K2 := Lib.hid K1; clear K1 K a0 l0 a1 l1; have K := K2; clear K2; have a0 := K.out.rd 0 rfl; have l0 := K.out.ltp 0 rfl; have a1 := K.out.rd 1 rfl; have l1 := K.out.ltp 1 rfl) | ((with_reducible refine at_alloc ?_); refine st_allocf K.out (fun _ => rfl) ?_; intro gw w1 K1; have K2 := Lib.hid K1; clear K1 K; (try clear a0); (try clear l0); (try clear a1); (try clear l1); (try clear a2); (try clear l2); have K := K2; clear K2; have a0 := K.out.rd 0 rfl; have l0 := K.out.ltp 0 rfl; have a1 := K.out.rd 1 rfl; have l1 := K.out.ltp 1 rfl; have a2 := K.out.rd 2 rfl; have l2 := K.out.ltp 2 rfl) | ((with_reducible refine at_store ?_); refine st_store 0 K.out rfl rfl rfl rfl ?_ ?_ ?_ ?_; (· kernel_rfl); (· simp); (· simp [Value.oneCell']); intro w1 K1; simp only [List.set, putL] at K1; have K2 := Lib.hid K1; clear K1 K; (try clear a0); (try clear l0); (try clear a1); (try clear l1); (try clear a2); (try clear l2); have K := K2; clear K2; have a0 := K.out.rd 0 rfl; have l0 := K.out.ltp 0 rfl; have a1 := K.out.rd 1 rfl; have l1 := K.out.ltp 1 rfl; have a2 := K.out.rd 2 rfl; have l2 := K.out.ltp 2 rfl))
      have K1 : sat E _ (wordA gw wd :: evA ge e :: audA a c bc bs :: cellsA bc n f :: seenA bs m g :: L) := K.out
      clear K
      have K := Lib.hid K1
      clear K1
      refine wp_region_noPanic ?_
      refine wp_region_held_drew (S := (fun w' => (∀ j, w'.cell? ⟨gw, j, none⟩ = (wordL wd)[j]?) ∧ (∀ j, w'.cell? ⟨ge, j, none⟩ = e.v[j]?) ∧ (∀ j, w'.cell? ⟨a, j, none⟩ = (audV c bc bs)[j]?))) (by kernel_rfl) ?_ (fun hHeld => ?_)
      · ((try dsimp only); (refine cellT (E := E) (c := c) (e := e) (x := wd) (M := cellsA bc n f :: seenA bs m g :: L) ?_; exact (by repeat (with_reducible first | exact K.out | apply sat.alloc_any | apply sat.drew | apply sat.drewN))))
      refine tk 0 (some 56) ?_
      (try simp only [Act.put, p0, p1, p2])
      refine tk 1 (some 57) ?_
      (try simp only [Act.put, p0, p1, p2])
      refine tk 2 (some 58) ?_
      (try simp only [Act.put, p0, p1, p2])
      refine tk 3 (some 59) ?_
      (try simp only [Act.put, p0, p1, p2])
      refine tk 4 (some 60) ?_
      (try simp only [Act.put, p0, p1, p2])
      refine tk 5 (some 61) ?_
      (try simp only [Act.put, p0, p1, p2])
      refine tk 6 (some 62) ?_
      (try simp only [Act.put, p0, p1, p2])
      refine wpAnyH_ready (rs := [7]) (by kernel_rfl) (by simp) ?_
      refine AllReadyH.cons (o := _) rfl (fun kC hkC => ?_) AllReadyH.nil
      go_simp
      (first | (go_at_call 41; (with_reducible refine ((OW _).out).mono ?_); rintro e w1 ⟨rfl, hb⟩; have K1 := sat.grown (by repeat (with_reducible first | exact K.out | apply sat.alloc_any | apply sat.drew | apply sat.drewN)) hb; clear hb; have K2 := Lib.hid K1; clear K1 K; (try clear a0); (try clear l0); (try clear a1); (try clear l1); (try clear a2); (try clear l2); have K := K2; clear K2; have a0 := K.out.rd 0 rfl; have l0 := K.out.ltp 0 rfl; have a1 := K.out.rd 1 rfl; have l1 := K.out.ltp 1 rfl; have a2 := K.out.rd 2 rfl; have l2 := K.out.ltp 2 rfl))
      refine shown hkC _ _ (by (try dsimp only); (refine cellT (E := E) (c := c) (e := e) (x := wd) (M := cellsA bc n f :: seenA bs m g :: L) ?_; exact (by repeat (with_reducible first | exact K.out | apply sat.alloc_any | apply sat.drew | apply sat.drewN)))) ?_; clear hkC kC hHeld; intro hHeld
      (try simp only [Act.put, p0, p1, p2])
      refine tk 8 (some 64) ?_
      (try simp only [Act.put, p0, p1, p2])
      refine tk 9 (some 65) ?_
      (try simp only [Act.put, p0, p1, p2])
      refine sk 10 (some 66) ?_
      (try simp only [Act.put, p0, p1, p2])
      refine sk 11 (some 67) ?_
      (try simp only [Act.put, p0, p1, p2])
      refine sk 12 (some 68) ?_
      (try simp only [Act.put, p0, p1, p2])
      refine tk 13 (some 69) ?_
      (try simp only [Act.put, p0, p1, p2])
      refine tk 14 (some 6) ?_
      (try simp only [Act.put, p0, p1, p2])
      refine wpAnyH_done (by kernel_rfl) (NoPanic.normal ?_) _
      go_wp2
      go_ret
      exact ⟨ret_b (by simp_all), (show sat E _ _ from (by repeat (with_reducible first | exact K.out | apply sat.alloc_any | apply sat.drew | apply sat.drewN))).drop.drop⟩
  · have t1 : (e.op == 1) = false := by simpa using o1
    rw [if_neg o1]
    clear o1
    go_enter Try.func32, Try.ntmps32
    go_wp2_with (first | ((with_reducible refine at_box ?_); refine st_boxf K.out rfl rfl (fun _ => rfl) ?_; intro ge w1 K1; have K2 := Lib.hid K1; clear K1 K; (try clear a0); (try clear l0); (try clear a1); (try clear l1); (try clear a2); (try clear l2); have K := K2; clear K2; have a0 := K.out.rd 0 rfl; have l0 := K.out.ltp 0 rfl; have a1 := K.out.rd 1 rfl; have l1 := K.out.ltp 1 rfl) | (go_at_call 44; (with_reducible refine (AW _ _ K.out.rot3).out.mono ?_); rintro r w1 ⟨rfl, K1⟩; replace K1 := K1.unrot3; have K2 := Lib.hid K1; clear K1 K a0 l0 a1 l1; have K := K2; clear K2; have a0 := K.out.rd 0 rfl; have l0 := K.out.ltp 0 rfl; have a1 := K.out.rd 1 rfl; have l1 := K.out.ltp 1 rfl) | ((with_reducible refine at_alloc ?_); refine st_allocf K.out (fun _ => rfl) ?_; intro gw w1 K1; have K2 := Lib.hid K1; clear K1 K; (try clear a0); (try clear l0); (try clear a1); (try clear l1); (try clear a2); (try clear l2); have K := K2; clear K2; have a0 := K.out.rd 0 rfl; have l0 := K.out.ltp 0 rfl; have a1 := K.out.rd 1 rfl; have l1 := K.out.ltp 1 rfl; have a2 := K.out.rd 2 rfl; have l2 := K.out.ltp 2 rfl) | ((with_reducible refine at_store ?_); refine st_store 0 K.out rfl rfl rfl rfl ?_ ?_ ?_ ?_; (· kernel_rfl); (· simp); (· simp [Value.oneCell']); intro w1 K1; simp only [List.set, putL] at K1; have K2 := Lib.hid K1; clear K1 K; (try clear a0); (try clear l0); (try clear a1); (try clear l1); (try clear a2); (try clear l2); have K := K2; clear K2; have a0 := K.out.rd 0 rfl; have l0 := K.out.ltp 0 rfl; have a1 := K.out.rd 1 rfl; have l1 := K.out.ltp 1 rfl; have a2 := K.out.rd 2 rfl; have l2 := K.out.ltp 2 rfl))
    have K1 : sat E _ (wordA gw wd :: evA ge e :: audA a c bc bs :: cellsA bc n f :: seenA bs m g :: L) := K.out
    clear K
    have K := Lib.hid K1
    clear K1
    go_ret
    exact ⟨rfl, K.out.drop.drop⟩
end
end Go.Proofs.Ytiladkalijonbaa
