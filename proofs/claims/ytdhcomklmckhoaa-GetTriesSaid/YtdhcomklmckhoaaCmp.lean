/- How numbers, stamps and things are compared (cmp.Compare and cmp.Or at ints, stamp, pick). No condition. -/
import Derived.Test.YtdhcomklmckhoaaWord
import Derived.Deep.LoopGhost
namespace Go.Proofs.Ytdhcomklmckhoaa
open Go.RowKit Go.SepYtdhcomklmckhoaa
set_option linter.unusedSimpArgs false
set_option linter.unusedVariables false
set_option maxRecDepth 100000
theorem nan_calls (x : Int) (w : World) : Calls Try.prog 102 #[.int .i64 x] w fun e w' => e = .returned (.bool false) ∧ w = w' := by
  have c : (x != x) = false := by simp
  go_enter Try.func102, Try.ntmps102
  go_wp2
  go_ret
  exact ⟨rfl, rfl⟩
theorem cmpi_calls (a b : Int) (w : World) : Calls Try.prog 91 #[.int .i64 a, .int .i64 b] w fun e w' => e = .returned (.int .i64 (cmpI a b)) ∧ w = w' := by
  have N := fun x w => Lib.hid (nan_calls x w)
  by_cases h1 : a < b
  · have e : cmpI a b = -1 := if_pos h1
    rw [e]
    have c1 : decide (a < b) = true := decide_eq_true h1
    clear e h1
    go_enter Try.func91, Try.ntmps91
    go_wp2_with (go_at_call 102; refine (N _ _).out.mono ?_; rintro e w1 ⟨rfl, rfl⟩)
    go_ret
    exact ⟨rfl, rfl⟩
  · by_cases h2 : b < a
    · have e : cmpI a b = 1 := by unfold cmpI; rw [if_neg h1, if_pos h2]
      rw [e]
      have c1 : decide (a < b) = false := decide_eq_false h1
      have c2 : decide (b < a) = true := decide_eq_true h2
      clear e h1 h2
      go_enter Try.func91, Try.ntmps91
      go_wp2_with (go_at_call 102; refine (N _ _).out.mono ?_; rintro e w1 ⟨rfl, rfl⟩)
      go_ret
      exact ⟨rfl, rfl⟩
    · have e : cmpI a b = 0 := by unfold cmpI; rw [if_neg h1, if_neg h2]
      rw [e]
      have c1 : decide (a < b) = false := decide_eq_false h1
      have c2 : decide (b < a) = false := decide_eq_false h2
      clear e h1 h2
      go_enter Try.func91, Try.ntmps91
      go_wp2_with (go_at_call 102; refine (N _ _).out.mono ?_; rintro e w1 ⟨rfl, rfl⟩)
      go_ret
      exact ⟨rfl, rfl⟩
/-- New blocks and draws, and no more. -/
def Grn (w w' : World) : Prop := Below w.heap.size w w' ∧ w.drawn ≤ w'.drawn
theorem Grn.refl (w : World) : Grn w w := ⟨Below.refl _ _, Nat.le_refl _⟩
theorem Grn.trans {a b c : World} (h : Grn a b) (k : Grn b c) : Grn a c := ⟨h.1.trans (k.1.mono h.1.size), Nat.le_trans h.2 k.2⟩
theorem Grn.drew {a b : World} (h : Grn a b) : Grn a b.drew := ⟨h.1.drew, Nat.le_trans h.2 (Nat.le_succ _)⟩
theorem Grn.alloc {a b : World} (h : Grn a b) (o : Obj) : Grn a (b.alloc o) := ⟨h.1.alloc h.1.size o, h.2⟩
abbrev TellsG (f : Nat) (args : Array Value) (w : World) (v : Value) : Prop := Calls Try.prog f args w fun e w' => e = .returned v ∧ Grn w w'
theorem st_boxg {E w w0 : World} {L : List SA} {P : Program} {ops : Array Oper} {rest : List Oper} {a : Act} {Q : Exit → Act → World → Prop} {dst : Option Tmp} {el : TypeId} {x : Operand} {oty : TypeId} {pos : String} {af : Array Edge}
    (h : sat E w L) (hg : Grn w0 w) {v : Value} {vs : List Value} (hx : Go.SepYtdhcomklmckhoaa.look a x = some v) (_hv : Go.SepYtdhcomklmckhoaa.valCells v = some vs)
    (hr : ∀ w : World, (Instr.box el v).run P w = .ok (.pointer (some ⟨w.heap.size, 0, none⟩)) (w.alloc (.cells vs.toArray el)))
    (k : ∀ g w', sat E w' (pt g (.cells vs.toArray el (0, 0)) :: L) → Grn w0 w' → wpList P ops Q rest (a.put dst (.pointer (some ⟨g, 0, none⟩))) w') : wpList P ops Q (⟨dst, .box el x, oty, pos, af, none⟩ :: rest) a w := by
  refine wpList_plain rfl fun K hK => ?_
  unfold Oper.wp execOp
  simp only [Go.SepYtdhcomklmckhoaa.look_eval hx, Sem.run_bind, hr, Result.andThen_ok, Sem.run_pure]
  exact hK _ _ (k w.heap.size (w.alloc (.cells vs.toArray el)) (h.alloc _) (hg.alloc _))
def or2 (x y : Int) : Int := if x ≠ 0 then x else y
def orRel (x y : Int) (w0 : World) (gk : Nat) (v : Value) (w' : World) : Prop :=
  ((gk = 2 ∧ v = .int .i64 0) ∨ (gk = 1 ∧ v = .int .i64 1 ∧ x = 0) ∨ (gk = 0 ∧ v = .int .i64 2 ∧ x = 0 ∧ y = 0)) ∧ Grn w0 w'
theorem or2_calls (x y : Int) (g : Nat) (w : World) (hg : g < w.heap.size) (h0 : w.cell? ⟨g, 0, none⟩ = some (.int .i64 x)) (h1 : w.cell? ⟨g, 1, none⟩ = some (.int .i64 y)) :
    TellsG 89 #[.slice (some ⟨g, 0, none⟩) 2 2] w (.int .i64 (or2 x y)) := by
  have F : ∀ w', Grn w w' → w'.cell? ⟨g, 0, none⟩ = some (.int .i64 x) ∧ w'.cell? ⟨g, 1, none⟩ = some (.int .i64 y) := fun w' hb => ⟨(hb.1.cell (p := ⟨g, 0, none⟩) hg).trans h0, (hb.1.cell (p := ⟨g, 1, none⟩) hg).trans h1⟩
  have H := Lib.hid F
  clear F
  go_enter Try.func89, Try.ntmps89
  go_wp2
  go_loopg [8] 2 (fun gk v w' => orRel x y w gk v w')
  case atStart => exact ⟨Or.inl ⟨rfl, rfl⟩, by first | exact Grn.refl _ | exact (Grn.refl _).drew⟩
  case round =>
    obtain ⟨hr, hb⟩ := hrel
    obtain ⟨f0, f1⟩ := H.out wr hb
    have B := Lib.hid hb
    clear hb
    rcases hr with ⟨rfl, rfl⟩ | ⟨rfl, rfl, hx⟩ | ⟨rfl, rfl, hx, hy⟩
    · by_cases hx : x = 0
      · have c0 : (x == 0) = true := by simpa using hx
        have HX := Lib.hid hx
        clear hx
        go_wp2
        go_roundg 1
        case measure => omega
        case rel => exact ⟨Or.inr (Or.inl ⟨rfl, rfl, HX.out⟩), by first | exact B.out | exact B.out.drew⟩
      · have c0 : (x == 0) = false := by simpa using hx
        have e : or2 x y = x := if_pos hx
        have E := Lib.hid e
        clear hx e
        go_wp2
        go_ret
        exact ⟨ret_i E.out.symm, by first | exact B.out | exact B.out.drew⟩
    · by_cases hy : y = 0
      · have c0 : (y == 0) = true := by simpa using hy
        have HX := Lib.hid (And.intro hx hy)
        clear hx hy
        go_wp2
        go_roundg 0
        case measure => omega
        case rel => exact ⟨Or.inr (Or.inr ⟨rfl, rfl, HX.out⟩), by first | exact B.out | exact B.out.drew⟩
      · have c0 : (y == 0) = false := by simpa using hy
        have e : or2 x y = y := if_neg (by simpa using hx)
        have E := Lib.hid e
        clear hx e hy
        go_wp2
        go_ret
        exact ⟨ret_i E.out.symm, by first | exact B.out | exact B.out.drew⟩
    · have e : or2 x y = 0 := by unfold or2; rw [if_neg (by simpa using hx), hy]
      have E := Lib.hid e
      clear hx e hy
      go_wp2
      go_ret
      exact ⟨ret_i E.out.symm, by first | exact B.out | exact B.out.drew⟩
theorem box_lt (w : World) (o : Obj) : w.heap.size < (w.alloc o).drew.heap.size := by show _ < (w.alloc o).heap.size; simp
theorem box_at (w : World) (l : List Value) (t : TypeId) (i : Nat) (v : Value) (h : l[i]? = some v) : (w.alloc (.cells l.toArray t)).drew.cell? ⟨w.heap.size, i, none⟩ = some v := by
  show (w.alloc (.cells l.toArray t)).cell? _ = _
  rw [World.cell?_alloc_at _ _ _ _ rfl]
  simpa using h
theorem box_lt2 (w : World) (o : Obj) : w.heap.size < (w.alloc o).heap.size := by simp
theorem box_at2 (w : World) (l : List Value) (t : TypeId) (i : Nat) (v : Value) (h : l[i]? = some v) : (w.alloc (.cells l.toArray t)).cell? ⟨w.heap.size, i, none⟩ = some v := box_at w l t i v h
theorem s2 {E w : World} {M : List SA} {b1 b2 t1 t2 : Nat} {l1 l2 : List Value} (h : sat E w (pt b1 (.cells l1.toArray t1 (0, 0)) :: pt b2 (.cells l2.toArray t2 (0, 0)) :: M)) :
    (∀ j, w.cell? ⟨b1, j, none⟩ = l1[j]?) ∧ b1 < w.heap.size ∧ (∀ j, w.cell? ⟨b2, j, none⟩ = l2[j]?) ∧ b2 < w.heap.size :=
  ⟨h.rd 0 rfl, h.ltp 0 rfl, h.rd 1 rfl, h.ltp 1 rfl⟩
theorem scmp_calls (s o : StampM) (w : World) : TellsG 90 #[.agg #[.int .i64 s.lo, .int .i64 s.hi], .agg #[.int .i64 o.lo, .int .i64 o.hi]] w (.int .i64 (s.cmp o)) := by
  have e : s.cmp o = or2 (cmpI s.lo o.lo) (cmpI s.hi o.hi) := rfl
  rw [e]
  clear e
  have C := fun a b w => Lib.hid (cmpi_calls a b w)
  have O := fun x y g w hg h0 h1 => Lib.hid (or2_calls x y g w hg h0 h1)
  have K := Lib.hid (sat.start w)
  have G := Lib.hid (Grn.refl w)
  go_enter Try.func90, Try.ntmps90
  go_wp2_with (first | ((with_reducible refine at_box ?_); refine st_boxg K.out G.out rfl rfl (fun _ => rfl) ?_; intro g2 w1 K1 G1; have K2 := Lib.hid K1; clear K1 K; (try clear a0); (try clear l0); (try clear a1); (try clear l1); (try clear a2); (try clear l2); have K := K2; clear K2; have a0 := K.out.rd 0 rfl; have l0 := K.out.ltp 0 rfl; have a1 := K.out.rd 1 rfl; have l1 := K.out.ltp 1 rfl; have G2 := Lib.hid G1; clear G1 G; have G := G2; clear G2) | ((with_reducible refine at_box ?_); refine st_boxg K.out G.out rfl rfl (fun _ => rfl) ?_; intro g1 w1 K1 G1; have K2 := Lib.hid K1; clear K1 K; (try clear a0); (try clear l0); (try clear a1); (try clear l1); (try clear a2); (try clear l2); have K := K2; clear K2; have a0 := K.out.rd 0 rfl; have l0 := K.out.ltp 0 rfl; have G2 := Lib.hid G1; clear G1 G; have G := G2; clear G2))
  go_region_held3 (fun w' => (∀ j, w'.cell? ⟨g2, j, none⟩ = [Value.int IntKind.i64 o.lo, Value.int IntKind.i64 o.hi][j]?) ∧ g2 < w'.heap.size ∧ (∀ j, w'.cell? ⟨g1, j, none⟩ = [Value.int IntKind.i64 s.lo, Value.int IntKind.i64 s.hi][j]?) ∧ g1 < w'.heap.size) (first | exact s2 (by repeat (with_reducible first | exact K.out | apply sat.alloc_any | apply sat.drew | apply sat.drewN)) | go_keep)
    (first | (go_at_call 91; refine (C _ _ _).out.mono ?_; rintro e w1 ⟨rfl, rfl⟩) | (go_at_call 89; (first | refine (O _ _ _ _ (box_lt _ _) (box_at _ [_, _] _ 0 _ rfl) (box_at _ [_, _] _ 1 _ rfl)).out.mono ?_ | refine (O _ _ _ _ (box_lt2 _ _) (box_at2 _ [_, _] _ 0 _ rfl) (box_at2 _ [_, _] _ 1 _ rfl)).out.mono ?_); rintro e w1 ⟨rfl, hb⟩; have K1 := sat.grown (by repeat (with_reducible first | exact K.out | apply sat.alloc_any | apply sat.drew | apply sat.drewN)) hb.1; have G1 := Grn.trans (by repeat (with_reducible first | exact G.out | apply Grn.alloc | apply Grn.drew)) hb; clear hb; have K2 := Lib.hid K1; clear K1 K; have K := K2; clear K2; have G2 := Lib.hid G1; clear G1 G; have G := G2; clear G2))
  all_goals go_wp2
  all_goals go_ret
  all_goals exact ⟨rfl, G.out⟩
/-- Something in a place. -/
abbrev Thing := Int × WordM
def thingC (x : Thing) : List Value := [.int .i64 x.1, .int .i64 x.2.state, .int .i64 x.2.fin, .int .i64 x.2.gen, .int .i64 x.2.stamp.lo, .int .i64 x.2.stamp.hi]
def tcmp (a b : Thing) : Int := or2 (a.2.stamp.cmp b.2.stamp) (cmpI a.1 b.1)
theorem tcmp_calls (a b : Thing) (w : World) : TellsG 84 #[.agg (thingC a).toArray, .agg (thingC b).toArray] w (.int .i64 (tcmp a b)) := by
  obtain ⟨ax, aw⟩ := a
  obtain ⟨bs, bw⟩ := b
  unfold tcmp thingC
  have C := fun a b w => Lib.hid (cmpi_calls a b w)
  have P := fun a b w => Lib.hid (scmp_calls a b w)
  have O := fun x y g w hg h0 h1 => Lib.hid (or2_calls x y g w hg h0 h1)
  have K := Lib.hid (sat.start w)
  have G := Lib.hid (Grn.refl w)
  go_enter Try.func84, Try.ntmps84
  go_wp2_with (first | ((with_reducible refine at_box ?_); refine st_boxg K.out G.out rfl rfl (fun _ => rfl) ?_; intro g2 w1 K1 G1; have K2 := Lib.hid K1; clear K1 K; (try clear a0); (try clear l0); (try clear a1); (try clear l1); (try clear a2); (try clear l2); have K := K2; clear K2; have a0 := K.out.rd 0 rfl; have l0 := K.out.ltp 0 rfl; have a1 := K.out.rd 1 rfl; have l1 := K.out.ltp 1 rfl; have G2 := Lib.hid G1; clear G1 G; have G := G2; clear G2) | ((with_reducible refine at_box ?_); refine st_boxg K.out G.out rfl rfl (fun _ => rfl) ?_; intro g1 w1 K1 G1; have K2 := Lib.hid K1; clear K1 K; (try clear a0); (try clear l0); (try clear a1); (try clear l1); (try clear a2); (try clear l2); have K := K2; clear K2; have a0 := K.out.rd 0 rfl; have l0 := K.out.ltp 0 rfl; have G2 := Lib.hid G1; clear G1 G; have G := G2; clear G2))
  go_region_held3 (fun w' => (∀ j, w'.cell? ⟨g2, j, none⟩ = [Value.int IntKind.i64 bs, Value.int IntKind.i64 bw.state, Value.int IntKind.i64 bw.fin, Value.int IntKind.i64 bw.gen, Value.int IntKind.i64 bw.stamp.lo, Value.int IntKind.i64 bw.stamp.hi][j]?) ∧ g2 < w'.heap.size ∧ (∀ j, w'.cell? ⟨g1, j, none⟩ = [Value.int IntKind.i64 ax, Value.int IntKind.i64 aw.state, Value.int IntKind.i64 aw.fin, Value.int IntKind.i64 aw.gen, Value.int IntKind.i64 aw.stamp.lo, Value.int IntKind.i64 aw.stamp.hi][j]?) ∧ g1 < w'.heap.size) (first | exact s2 (by repeat (with_reducible first | exact K.out | apply sat.alloc_any | apply sat.drew | apply sat.drewN)) | go_keep)
    (first | (go_at_call 90; (with_reducible refine ((P _ _ _).out).mono ?_); rintro e w1 ⟨rfl, hb⟩; have K1 := sat.grown (by repeat (with_reducible first | exact K.out | apply sat.alloc_any | apply sat.drew | apply sat.drewN)) hb.1; have G1 := Grn.trans (by repeat (with_reducible first | exact G.out | apply Grn.alloc | apply Grn.drew)) hb; clear hb; have K2 := Lib.hid K1; clear K1 K; (try clear a0); (try clear l0); (try clear a1); (try clear l1); (try clear a2); (try clear l2); have K := K2; clear K2; have a0 := K.out.rd 0 rfl; have l0 := K.out.ltp 0 rfl; have a1 := K.out.rd 1 rfl; have l1 := K.out.ltp 1 rfl; have G2 := Lib.hid G1; clear G1 G; have G := G2; clear G2) | (go_at_call 91; refine (C _ _ _).out.mono ?_; rintro e w1 ⟨rfl, rfl⟩) | (go_at_call 89; (first | refine (O _ _ _ _ (box_lt _ _) (box_at _ [_, _] _ 0 _ rfl) (box_at _ [_, _] _ 1 _ rfl)).out.mono ?_ | refine (O _ _ _ _ (box_lt2 _ _) (box_at2 _ [_, _] _ 0 _ rfl) (box_at2 _ [_, _] _ 1 _ rfl)).out.mono ?_); rintro e w1 ⟨rfl, hb⟩; have K1 := sat.grown (by repeat (with_reducible first | exact K.out | apply sat.alloc_any | apply sat.drew | apply sat.drewN)) hb.1; have G1 := Grn.trans (by repeat (with_reducible first | exact G.out | apply Grn.alloc | apply Grn.drew)) hb; clear hb; have K2 := Lib.hid K1; clear K1 K; have K := K2; clear K2; have G2 := Lib.hid G1; clear G1 G; have G := G2; clear G2))
  all_goals go_wp2
  all_goals go_ret
  all_goals exact ⟨rfl, G.out⟩
theorem trev_calls (a b : Thing) (w : World) : TellsG 83 #[.agg (thingC a).toArray, .agg (thingC b).toArray] w (.int .i64 (tcmp b a)) := by
  have P := fun w => Lib.hid (tcmp_calls b a w)
  have K := Lib.hid (sat.start w)
  have G := Lib.hid (Grn.refl w)
  generalize tcmp b a = r at *
  obtain ⟨ax, aw⟩ := a
  obtain ⟨bs, bw⟩ := b
  unfold thingC at *
  go_enter Try.func83, Try.ntmps83
  go_wp2_with (first | ((with_reducible refine at_box ?_); refine st_boxg K.out G.out rfl rfl (fun _ => rfl) ?_; intro g2 w1 K1 G1; have K2 := Lib.hid K1; clear K1 K; (try clear a0); (try clear l0); (try clear a1); (try clear l1); (try clear a2); (try clear l2); have K := K2; clear K2; have a0 := K.out.rd 0 rfl; have l0 := K.out.ltp 0 rfl; have a1 := K.out.rd 1 rfl; have l1 := K.out.ltp 1 rfl; have G2 := Lib.hid G1; clear G1 G; have G := G2; clear G2) | ((with_reducible refine at_box ?_); refine st_boxg K.out G.out rfl rfl (fun _ => rfl) ?_; intro g1 w1 K1 G1; have K2 := Lib.hid K1; clear K1 K; (try clear a0); (try clear l0); (try clear a1); (try clear l1); (try clear a2); (try clear l2); have K := K2; clear K2; have a0 := K.out.rd 0 rfl; have l0 := K.out.ltp 0 rfl; have G2 := Lib.hid G1; clear G1 G; have G := G2; clear G2) | (go_at_call 84; (with_reducible refine ((P _).out).mono ?_); rintro e w1 ⟨rfl, hb⟩; have K1 := sat.grown (by repeat (with_reducible first | exact K.out | apply sat.alloc_any | apply sat.drew | apply sat.drewN)) hb.1; have G1 := Grn.trans (by repeat (with_reducible first | exact G.out | apply Grn.alloc | apply Grn.drew)) hb; clear hb; have K2 := Lib.hid K1; clear K1 K; (try clear a0); (try clear l0); (try clear a1); (try clear l1); (try clear a2); (try clear l2); have K := K2; clear K2; have a0 := K.out.rd 0 rfl; have l0 := K.out.ltp 0 rfl; have a1 := K.out.rd 1 rfl; have l1 := K.out.ltp 1 rfl; have G2 := Lib.hid G1; clear G1 G; have G := G2; clear G2))
  all_goals go_ret
  all_goals exact ⟨rfl, G.out⟩
end Go.Proofs.Ytdhcomklmckhoaa
