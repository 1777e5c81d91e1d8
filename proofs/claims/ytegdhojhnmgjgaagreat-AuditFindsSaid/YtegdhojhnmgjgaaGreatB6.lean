/- Several texts in one: Cmp OrderM PickM Sorted SortThing SortCalls OrderT PickKit. Each says ahead of it what it shows. -/
import Derived.Test.YtegdhojhnmgjgaaGreatB2
import Derived.Deep.LoopGhost
import Derived.Test.YtegdhojhnmgjgaaGreatB1
import Derived.Sort.OwnSortedInts
import Derived.Shelf.GgSortFunc.InsertionK
import Derived.Shelf.SlSortCmp.WholeK
import Derived.Shelf.Lay
import Derived.Ground.SlsfProg
set_option linter.unusedVariables false
set_option linter.unusedSimpArgs false
/- How numbers, stamps and things are compared (cmp.Compare and cmp.Or at ints, stamp, pick). No condition. -/
namespace Go.Proofs.YtegdhojhnmgjgaaGreat
open Go.RowKit Go.SepYtegdhojhnmgjgaaGreat
set_option maxRecDepth 100000
theorem nan_calls (x : Int) (w : World) : Calls Tryz.prog 134 #[.int .i64 x] w fun e w' => e = .returned (.bool false) ∧ w = w' := by
  have c : (x != x) = false := by simp
  go_enter Tryz.func134, Tryz.ntmps134
  go_wp2
  go_ret
  exact ⟨rfl, rfl⟩
theorem cmpi_calls (a b : Int) (w : World) : Calls Tryz.prog 123 #[.int .i64 a, .int .i64 b] w fun e w' => e = .returned (.int .i64 (cmpI a b)) ∧ w = w' := by
  have N := fun x w => Lib.hid (nan_calls x w)
  by_cases h1 : a < b
  · have e : cmpI a b = -1 := if_pos h1
    rw [e]
    have c1 : decide (a < b) = true := decide_eq_true h1
    clear e h1
    go_enter Tryz.func123, Tryz.ntmps123
    go_wp2_with (go_at_call 134; refine (N _ _).out.mono ?_; rintro e w1 ⟨rfl, rfl⟩)
    go_ret
    exact ⟨rfl, rfl⟩
  · by_cases h2 : b < a
    · have e : cmpI a b = 1 := by unfold cmpI; rw [if_neg h1, if_pos h2]
      rw [e]
      have c1 : decide (a < b) = false := decide_eq_false h1
      have c2 : decide (b < a) = true := decide_eq_true h2
      clear e h1 h2
      go_enter Tryz.func123, Tryz.ntmps123
      go_wp2_with (go_at_call 134; refine (N _ _).out.mono ?_; rintro e w1 ⟨rfl, rfl⟩)
      go_ret
      exact ⟨rfl, rfl⟩
    · have e : cmpI a b = 0 := by unfold cmpI; rw [if_neg h1, if_neg h2]
      rw [e]
      have c1 : decide (a < b) = false := decide_eq_false h1
      have c2 : decide (b < a) = false := decide_eq_false h2
      clear e h1 h2
      go_enter Tryz.func123, Tryz.ntmps123
      go_wp2_with (go_at_call 134; refine (N _ _).out.mono ?_; rintro e w1 ⟨rfl, rfl⟩)
      go_ret
      exact ⟨rfl, rfl⟩
/-- New blocks and draws, and no more. -/
def Grn (w w' : World) : Prop := Below w.heap.size w w' ∧ w.drawn ≤ w'.drawn
theorem Grn.refl (w : World) : Grn w w := ⟨Below.refl _ _, Nat.le_refl _⟩
theorem Grn.trans {a b c : World} (h : Grn a b) (k : Grn b c) : Grn a c := ⟨h.1.trans (k.1.mono h.1.size), Nat.le_trans h.2 k.2⟩
theorem Grn.drew {a b : World} (h : Grn a b) : Grn a b.drew := ⟨h.1.drew, Nat.le_trans h.2 (Nat.le_succ _)⟩
theorem Grn.alloc {a b : World} (h : Grn a b) (o : Obj) : Grn a (b.alloc o) := ⟨h.1.alloc h.1.size o, h.2⟩
abbrev TellsG (f : Nat) (args : Array Value) (w : World) (v : Value) : Prop := Calls Tryz.prog f args w fun e w' => e = .returned v ∧ Grn w w'
theorem st_boxg {E w w0 : World} {L : List SA} {P : Program} {ops : Array Oper} {rest : List Oper} {a : Act} {Q : Exit → Act → World → Prop} {dst : Option Tmp} {el : TypeId} {x : Operand} {oty : TypeId} {pos : String} {af : Array Edge}
    (h : sat E w L) (hg : Grn w0 w) {v : Value} {vs : List Value} (hx : Go.SepYtegdhojhnmgjgaaGreat.look a x = some v) (_hv : Go.SepYtegdhojhnmgjgaaGreat.valCells v = some vs)
    (hr : ∀ w : World, (Instr.box el v).run P w = .ok (.pointer (some ⟨w.heap.size, 0, none⟩)) (w.alloc (.cells vs.toArray el)))
    (k : ∀ g w', sat E w' (pt g (.cells vs.toArray el (0, 0)) :: L) → Grn w0 w' → wpList P ops Q rest (a.put dst (.pointer (some ⟨g, 0, none⟩))) w') : wpList P ops Q (⟨dst, .box el x, oty, pos, af, none⟩ :: rest) a w := by
  refine wpList_plain rfl fun K hK => ?_
  unfold Oper.wp execOp
  simp only [Go.SepYtegdhojhnmgjgaaGreat.look_eval hx, Sem.run_bind, hr, Result.andThen_ok, Sem.run_pure]
  exact hK _ _ (k w.heap.size (w.alloc (.cells vs.toArray el)) (h.alloc _) (hg.alloc _))
def or2 (x y : Int) : Int := if x ≠ 0 then x else y
def orRel (x y : Int) (w0 : World) (gk : Nat) (v : Value) (w' : World) : Prop :=
  ((gk = 2 ∧ v = .int .i64 0) ∨ (gk = 1 ∧ v = .int .i64 1 ∧ x = 0) ∨ (gk = 0 ∧ v = .int .i64 2 ∧ x = 0 ∧ y = 0)) ∧ Grn w0 w'
theorem or2_calls (x y : Int) (g : Nat) (w : World) (hg : g < w.heap.size) (h0 : w.cell? ⟨g, 0, none⟩ = some (.int .i64 x)) (h1 : w.cell? ⟨g, 1, none⟩ = some (.int .i64 y)) :
    TellsG 121 #[.slice (some ⟨g, 0, none⟩) 2 2] w (.int .i64 (or2 x y)) := by
  have F : ∀ w', Grn w w' → w'.cell? ⟨g, 0, none⟩ = some (.int .i64 x) ∧ w'.cell? ⟨g, 1, none⟩ = some (.int .i64 y) := fun w' hb => ⟨(hb.1.cell (p := ⟨g, 0, none⟩) hg).trans h0, (hb.1.cell (p := ⟨g, 1, none⟩) hg).trans h1⟩
  have H := Lib.hid F
  clear F
  go_enter Tryz.func121, Tryz.ntmps121
  go_wp2
  go_loopg [8] 2 (fun gk v w' => orRel x y w gk v w')
  case atStart => exact ⟨Or.inl ⟨rfl, rfl⟩, by first | exact Grn.refl _ | exact (Grn.refl _).drew⟩
  case round =>
    obtain ⟨hr, hb⟩ := hrel
    obtain ⟨f0, f1⟩ := H.out wr hb
    have B := Lib.hid hb
    clear hb
    rcases hr with ⟨rfl, rfl⟩ | ⟨rfl, rfl, hx⟩ | ⟨rfl, rfl, hx, hy⟩
    · by_cases hx : x = 0
      · have c0 : (x == 0) = true := by simpa using hx
        have HX := Lib.hid hx
        clear hx
        go_wp2
        go_roundg 1
        case measure => omega
        case rel => exact ⟨Or.inr (Or.inl ⟨rfl, rfl, HX.out⟩), by first | exact B.out | exact B.out.drew⟩
      · have c0 : (x == 0) = false := by simpa using hx
        have e : or2 x y = x := if_pos hx
        have E := Lib.hid e
        clear hx e
        go_wp2
        go_ret
        exact ⟨ret_i E.out.symm, by first | exact B.out | exact B.out.drew⟩
    · by_cases hy : y = 0
      · have c0 : (y == 0) = true := by simpa using hy
        have HX := Lib.hid (And.intro hx hy)
        clear hx hy
        go_wp2
        go_roundg 0
        case measure => omega
        case rel => exact ⟨Or.inr (Or.inr ⟨rfl, rfl, HX.out⟩), by first | exact B.out | exact B.out.drew⟩
      · have c0 : (y == 0) = false := by simpa using hy
        have e : or2 x y = y := if_neg (by simpa using hx)
        have E := Lib.hid e
        clear hx e hy
        go_wp2
        go_ret
        exact ⟨ret_i E.out.symm, by first | exact B.out | exact B.out.drew⟩
    · have e : or2 x y = 0 := by unfold or2; rw [if_neg (by simpa using hx), hy]
      have E := Lib.hid e
      clear hx e hy
      go_wp2
      go_ret
      exact ⟨ret_i E.out.symm, by first | exact B.out | exact B.out.drew⟩
theorem box_lt (w : World) (o : Obj) : w.heap.size < (w.alloc o).drew.heap.size := by show _ < (w.alloc o).heap.size; simp
theorem box_at (w : World) (l : List Value) (t : TypeId) (i : Nat) (v : Value) (h : l[i]? = some v) : (w.alloc (.cells l.toArray t)).drew.cell? ⟨w.heap.size, i, none⟩ = some v := by
  show (w.alloc (.cells l.toArray t)).cell? _ = _
  rw [World.cell?_alloc_at _ _ _ _ rfl]
  simpa using h
theorem box_lt2 (w : World) (o : Obj) : w.heap.size < (w.alloc o).heap.size := by simp
theorem box_at2 (w : World) (l : List Value) (t : TypeId) (i : Nat) (v : Value) (h : l[i]? = some v) : (w.alloc (.cells l.toArray t)).cell? ⟨w.heap.size, i, none⟩ = some v := box_at w l t i v h
theorem s2 {E w : World} {M : List SA} {b1 b2 t1 t2 : Nat} {l1 l2 : List Value} (h : sat E w (pt b1 (.cells l1.toArray t1 (0, 0)) :: pt b2 (.cells l2.toArray t2 (0, 0)) :: M)) :
    (∀ j, w.cell? ⟨b1, j, none⟩ = l1[j]?) ∧ b1 < w.heap.size ∧ (∀ j, w.cell? ⟨b2, j, none⟩ = l2[j]?) ∧ b2 < w.heap.size :=
  ⟨h.rd 0 rfl, h.ltp 0 rfl, h.rd 1 rfl, h.ltp 1 rfl⟩
theorem scmp_calls (s o : StampM) (w : World) : TellsG 122 #[.agg #[.int .i64 s.lo, .int .i64 s.hi], .agg #[.int .i64 o.lo, .int .i64 o.hi]] w (.int .i64 (s.cmp o)) := by
  have e : s.cmp o = or2 (cmpI s.lo o.lo) (cmpI s.hi o.hi) := rfl
  rw [e]
  clear e
  have C := fun a b w => Lib.hid (cmpi_calls a b w)
  have O := fun x y g w hg h0 h1 => Lib.hid (or2_calls x y g w hg h0 h1)
  have K := Lib.hid (sat.start w)
  have G := Lib.hid (Grn.refl w)
  go_enter Tryz.func122, Tryz.ntmps122
  go_wp2_with (first | ((with_reducible refine at_box ?_); refine st_boxg K.out G.out rfl rfl (fun _ => rfl) ?_; intro g2 w1 K1 G1; have K2 := Lib.hid K1; clear K1 K; (try clear a0); (try clear l0); (try clear a1); (try clear l1); (try clear a2); (try clear l2); have K := K2; clear K2; have a0 := K.out.rd 0 rfl; have l0 := K.out.ltp 0 rfl; have a1 := K.out.rd 1 rfl; have l1 := K.out.ltp 1 rfl; have G2 := Lib.hid G1; clear G1 G; have G := G2; clear G2) | ((with_reducible refine at_box ?_); refine st_boxg K.out G.out rfl rfl (fun _ => rfl) ?_; intro g1 w1 K1 G1; have K2 := Lib.hid K1; clear K1 K; (try clear a0); (try clear l0); (try clear a1); (try clear l1); (try clear a2); (try clear l2); have K := K2; clear K2; have a0 := K.out.rd 0 rfl; have l0 := K.out.ltp 0 rfl; have G2 := Lib.hid G1; clear G1 G; have G := G2; clear G2))
  go_region_held3 (fun w' => (∀ j, w'.cell? ⟨g2, j, none⟩ = [Value.int IntKind.i64 o.lo, Value.int IntKind.i64 o.hi][j]?) ∧ g2 < w'.heap.size ∧ (∀ j, w'.cell? ⟨g1, j, none⟩ = [Value.int IntKind.i64 s.lo, Value.int IntKind.i64 s.hi][j]?) ∧ g1 < w'.heap.size) (first | exact s2 (by repeat (with_reducible first | exact K.out | apply sat.alloc_any | apply sat.drew | apply sat.drewN)) | go_keep)
    (first | (go_at_call 123; refine (C _ _ _).out.mono ?_; rintro e w1 ⟨rfl, rfl⟩) | (go_at_call 121; (first | refine (O _ _ _ _ (box_lt _ _) (box_at _ [_, _] _ 0 _ rfl) (box_at _ [_, _] _ 1 _ rfl)).out.mono ?_ | refine (O _ _ _ _ (box_lt2 _ _) (box_at2 _ [_, _] _ 0 _ rfl) (box_at2 _ [_, _] _ 1 _ rfl)).out.mono ?_); rintro e w1 ⟨rfl, hb⟩; have K1 := sat.grown (by repeat (with_reducible first | exact K.out | apply sat.alloc_any | apply sat.drew | apply sat.drewN)) hb.1; have G1 := Grn.trans (by repeat (with_reducible first | exact G.out | apply Grn.alloc | apply Grn.drew)) hb; clear hb; have K2 := Lib.hid K1; clear K1 K; have K := K2; clear K2; have G2 := Lib.hid G1; clear G1 G; have G := G2; clear G2))
  all_goals go_wp2
  all_goals go_ret
  all_goals exact ⟨rfl, G.out⟩
/-- Something in a place. -/
abbrev Thing := Int × WordM
def thingC (x : Thing) : List Value := [.int .i64 x.1, .int .i64 x.2.state, .int .i64 x.2.fin, .int .i64 x.2.gen, .int .i64 x.2.stamp.lo, .int .i64 x.2.stamp.hi]
def tcmp (a b : Thing) : Int := or2 (a.2.stamp.cmp b.2.stamp) (cmpI a.1 b.1)
theorem tcmp_calls (a b : Thing) (w : World) : TellsG 118 #[.agg (thingC a).toArray, .agg (thingC b).toArray] w (.int .i64 (tcmp a b)) := by
  obtain ⟨ax, aw⟩ := a
  obtain ⟨bs, bw⟩ := b
  unfold tcmp thingC
  have C := fun a b w => Lib.hid (cmpi_calls a b w)
  have P := fun a b w => Lib.hid (scmp_calls a b w)
  have O := fun x y g w hg h0 h1 => Lib.hid (or2_calls x y g w hg h0 h1)
  have K := Lib.hid (sat.start w)
  have G := Lib.hid (Grn.refl w)
  go_enter Tryz.func118, Tryz.ntmps118
  go_wp2_with (first | ((with_reducible refine at_box ?_); refine st_boxg K.out G.out rfl rfl (fun _ => rfl) ?_; intro g2 w1 K1 G1; have K2 := Lib.hid K1; clear K1 K; (try clear a0); (try clear l0); (try clear a1); (try clear l1); (try clear a2); (try clear l2); have K := K2; clear K2; have a0 := K.out.rd 0 rfl; have l0 := K.out.ltp 0 rfl; have a1 := K.out.rd 1 rfl; have l1 := K.out.ltp 1 rfl; have G2 := Lib.hid G1; clear G1 G; have G := G2; clear G2) | ((with_reducible refine at_box ?_); refine st_boxg K.out G.out rfl rfl (fun _ => rfl) ?_; intro g1 w1 K1 G1; have K2 := Lib.hid K1; clear K1 K; (try clear a0); (try clear l0); (try clear a1); (try clear l1); (try clear a2); (try clear l2); have K := K2; clear K2; have a0 := K.out.rd 0 rfl; have l0 := K.out.ltp 0 rfl; have G2 := Lib.hid G1; clear G1 G; have G := G2; clear G2))
  go_region_held3 (fun w' => (∀ j, w'.cell? ⟨g2, j, none⟩ = [Value.int IntKind.i64 bs, Value.int IntKind.i64 bw.state, Value.int IntKind.i64 bw.fin, Value.int IntKind.i64 bw.gen, Value.int IntKind.i64 bw.stamp.lo, Value.int IntKind.i64 bw.stamp.hi][j]?) ∧ g2 < w'.heap.size ∧ (∀ j, w'.cell? ⟨g1, j, none⟩ = [Value.int IntKind.i64 ax, Value.int IntKind.i64 aw.state, Value.int IntKind.i64 aw.fin, Value.int IntKind.i64 aw.gen, Value.int IntKind.i64 aw.stamp.lo, Value.int IntKind.i64 aw.stamp.hi][j]?) ∧ g1 < w'.heap.size) (first | exact s2 (by repeat (with_reducible first | exact K.out | apply sat.alloc_any | apply sat.drew | apply sat.drewN)) | go_keep)
    (first | (go_at_call 122; (with_reducible refine ((P _ _ _).out).mono ?_); rintro e w1 ⟨rfl, hb⟩; have K1 := sat.grown (by repeat (with_reducible first | exact K.out | apply sat.alloc_any | apply sat.drew | apply sat.drewN)) hb.1; have G1 := Grn.trans (by repeat (with_reducible first | exact G.out | apply Grn.alloc | apply Grn.drew)) hb; clear hb; have K2 := Lib.hid K1; clear K1 K; (try clear a0); (try clear l0); (try clear a1); (try clear l1); (try clear a2); (try clear l2); have K := K2; clear K2; have a0 := K.out.rd 0 rfl; have l0 := K.out.ltp 0 rfl; have a1 := K.out.rd 1 rfl; have l1 := K.out.ltp 1 rfl; have G2 := Lib.hid G1; clear G1 G; have G := G2; clear G2) | (go_at_call 123; refine (C _ _ _).out.mono ?_; rintro e w1 ⟨rfl, rfl⟩) | (go_at_call 121; (first | refine (O _ _ _ _ (box_lt _ _) (box_at _ [_, _] _ 0 _ rfl) (box_at _ [_, _] _ 1 _ rfl)).out.mono ?_ | refine (O _ _ _ _ (box_lt2 _ _) (box_at2 _ [_, _] _ 0 _ rfl) (box_at2 _ [_, _] _ 1 _ rfl)).out.mono ?_); rintro e w1 ⟨rfl, hb⟩; have K1 := sat.grown (by repeat (with_reducible first | exact K.out | apply sat.alloc_any | apply sat.drew | apply sat.drewN)) hb.1; have G1 := Grn.trans (by repeat (with_reducible first | exact G.out | apply Grn.alloc | apply Grn.drew)) hb; clear hb; have K2 := Lib.hid K1; clear K1 K; have K := K2; clear K2; have G2 := Lib.hid G1; clear G1 G; have G := G2; clear G2))
  all_goals go_wp2
  all_goals go_ret
  all_goals exact ⟨rfl, G.out⟩
theorem trev_calls (a b : Thing) (w : World) : TellsG 117 #[.agg (thingC a).toArray, .agg (thingC b).toArray] w (.int .i64 (tcmp b a)) := by
  have P := fun w => Lib.hid (tcmp_calls b a w)
  have K := Lib.hid (sat.start w)
  have G := Lib.hid (Grn.refl w)
  generalize tcmp b a = r at *
  obtain ⟨ax, aw⟩ := a
  obtain ⟨bs, bw⟩ := b
  unfold thingC at *
  go_enter Tryz.func117, Tryz.ntmps117
  go_wp2_with (first | ((with_reducible refine at_box ?_); refine st_boxg K.out G.out rfl rfl (fun _ => rfl) ?_; intro g2 w1 K1 G1; have K2 := Lib.hid K1; clear K1 K; (try clear a0); (try clear l0); (try clear a1); (try clear l1); (try clear a2); (try clear l2); have K := K2; clear K2; have a0 := K.out.rd 0 rfl; have l0 := K.out.ltp 0 rfl; have a1 := K.out.rd 1 rfl; have l1 := K.out.ltp 1 rfl; have G2 := Lib.hid G1; clear G1 G; have G := G2; clear G2) | ((with_reducible refine at_box ?_); refine st_boxg K.out G.out rfl rfl (fun _ => rfl) ?_; intro g1 w1 K1 G1; have K2 := Lib.hid K1; clear K1 K; (try clear a0); (try clear l0); (try clear a1); (try clear l1); (try clear a2); (try clear l2); have K := K2; clear K2; have a0 := K.out.rd 0 rfl; have l0 := K.out.ltp 0 rfl; have G2 := Lib.hid G1; clear G1 G; have G := G2; clear G2) | (go_at_call 118; (with_reducible refine ((P _).out).mono ?_); rintro e w1 ⟨rfl, hb⟩; have K1 := sat.grown (by repeat (with_reducible first | exact K.out | apply sat.alloc_any | apply sat.drew | apply sat.drewN)) hb.1; have G1 := Grn.trans (by repeat (with_reducible first | exact G.out | apply Grn.alloc | apply Grn.drew)) hb; clear hb; have K2 := Lib.hid K1; clear K1 K; (try clear a0); (try clear l0); (try clear a1); (try clear l1); (try clear a2); (try clear l2); have K := K2; clear K2; have a0 := K.out.rd 0 rfl; have l0 := K.out.ltp 0 rfl; have a1 := K.out.rd 1 rfl; have l1 := K.out.ltp 1 rfl; have G2 := Lib.hid G1; clear G1 G; have G := G2; clear G2))
  all_goals go_ret
  all_goals exact ⟨rfl, G.out⟩
end Go.Proofs.YtegdhojhnmgjgaaGreat
/- The order in which things stand, in plain Lean: whatever stands in order, and is the same things, is one row. -/
namespace Go.Proofs.YtegdhojhnmgjgaaGreat
theorem eq_of_sorted {α : Type} {R : α → α → Prop} (ha : ∀ a b, R a b → R b a → False) : ∀ {l l' : List α}, l.Perm l' → l.Pairwise R → l'.Pairwise R → l = l'
  | [], l', p, _, _ => by simpa using p.symm.eq_nil.symm
  | a :: l, [], p, _, _ => by simpa using p.eq_nil
  | a :: l, b :: l', p, h, h' => by
    have hab : a = b := by
      rcases List.mem_cons.1 (p.mem_iff.1 (List.mem_cons_self)) with e | e
      · exact e
      · rcases List.mem_cons.1 (p.mem_iff.2 (List.mem_cons_self)) with e' | e'
        · exact e'.symm
        · exact (ha a b ((List.pairwise_cons.1 h).1 b e') ((List.pairwise_cons.1 h').1 a e)).elim
    subst hab
    rw [eq_of_sorted ha p.cons_inv (List.pairwise_cons.1 h).2 (List.pairwise_cons.1 h').2]
/-- The order of stamps, and of places among those. -/
theorem laterB_iff (x : WordM) (a : Int) (y : WordM) (b : Int) : laterB x a y b = decide (y.stamp.lo < x.stamp.lo ∨ (y.stamp.lo = x.stamp.lo ∧ (y.stamp.hi < x.stamp.hi ∨ (y.stamp.hi = x.stamp.hi ∧ b < a)))) := by
  unfold laterB StampM.cmp cmpI
  rw [Bool.eq_iff_iff]
  simp only [Bool.or_eq_true, Bool.and_eq_true, decide_eq_true_eq]
  (repeat' split) <;> omega
theorem aheadB_asymm (words : List Int) (a b : Int) (h : aheadB words a b = true) (h' : aheadB words b a = true) : False := by
  unfold aheadB at h h'
  simp only [laterB_iff] at h h'
  generalize unpack (getI words a) = x at *
  generalize unpack (getI words b) = y at *
  (repeat' split at h) <;> (repeat' split at h') <;> simp only [decide_eq_true_eq] at h h' <;> omega
theorem aheadB_trans (words : List Int) (a b c : Int) (h : aheadB words a b = true) (h' : aheadB words b c = true) : aheadB words a c = true := by
  unfold aheadB at *
  simp only [laterB_iff] at *
  generalize unpack (getI words a) = x at *
  generalize unpack (getI words b) = y at *
  generalize unpack (getI words c) = z at *
  (repeat' split at h) <;> (repeat' split at h') <;> (repeat' split) <;> simp only [decide_eq_true_eq] at * <;> omega
theorem aheadB_total (words : List Int) (a b : Int) (h : a ≠ b) : aheadB words a b = true ∨ aheadB words b a = true := by
  unfold aheadB
  simp only [laterB_iff]
  have hx : (unpack (getI words a)).fin = 0 ∨ (unpack (getI words a)).fin = 1 := by simp only [unpack]; omega
  have hy : (unpack (getI words b)).fin = 0 ∨ (unpack (getI words b)).fin = 1 := by simp only [unpack]; omega
  generalize unpack (getI words a) = x at *
  generalize unpack (getI words b) = y at *
  (repeat' split) <;> simp only [decide_eq_true_eq] <;> omega
theorem insB_perm (words : List Int) (i : Int) : ∀ l, (insB words i l).Perm (i :: l)
  | [] => List.Perm.refl _
  | a :: l => by
    unfold insB
    split
    · exact (List.Perm.cons a (insB_perm words i l)).trans (List.Perm.swap i a l)
    · exact List.Perm.refl _
theorem insB_sorted (words : List Int) (i : Int) : ∀ l, l.Pairwise (fun a b => aheadB words a b = true) → (∀ a ∈ l, a ≠ i) → (insB words i l).Pairwise (fun a b => aheadB words a b = true)
  | [], _, _ => by simp [insB]
  | a :: l, h, hn => by
    obtain ⟨h1, h2⟩ := List.pairwise_cons.1 h
    unfold insB
    split
    · rename_i ha
      refine List.pairwise_cons.2 ⟨fun b hb => ?_, insB_sorted words i l h2 (fun b hb => hn b (List.mem_cons_of_mem _ hb))⟩
      rcases List.mem_cons.1 ((insB_perm words i l).mem_iff.1 hb) with e | e
      · subst e; exact ha
      · exact h1 b e
    · rename_i ha
      have hi : aheadB words i a = true := (aheadB_total words a i (hn a List.mem_cons_self)).resolve_left ha
      refine List.pairwise_cons.2 ⟨fun b hb => ?_, h⟩
      rcases List.mem_cons.1 hb with e | e
      · subst e; exact hi
      · exact aheadB_trans words i a b hi (h1 b e)
/-- The places in which something is, out of the first n. -/
def liveM (words : List Int) : Nat → List Int
  | 0 => []
  | n + 1 => if (unpack (getI words n)).state = 1 then (n : Int) :: liveM words n else liveM words n
theorem liveM_lt (words : List Int) : ∀ n, ∀ a ∈ liveM words n, 0 ≤ a ∧ a < n ∧ (unpack (getI words a)).state = 1
  | 0, a, h => by simp [liveM] at h
  | n + 1, a, h => by
    unfold liveM at h
    split at h
    · rename_i hs
      rcases List.mem_cons.1 h with e | e
      · subst e; exact ⟨by omega, by omega, hs⟩
      · have := liveM_lt words n a e; omega
    · have := liveM_lt words n a h; omega
theorem rowM_perm (words : List Int) : ∀ n, (rowM words n).Perm (liveM words n)
  | 0 => List.Perm.refl _
  | n + 1 => by
    unfold rowM liveM
    split
    · exact (insB_perm words n _).trans (List.Perm.cons _ (rowM_perm words n))
    · exact rowM_perm words n
theorem rowM_sorted (words : List Int) : ∀ n, (rowM words n).Pairwise (fun a b => aheadB words a b = true)
  | 0 => List.Pairwise.nil
  | n + 1 => by
    unfold rowM
    split
    · refine insB_sorted words n _ (rowM_sorted words n) (fun a ha => ?_)
      have := liveM_lt words n a ((rowM_perm words n).mem_iff.1 ha)
      omega
    · exact rowM_sorted words n
/-- Whatever row holds the places in which something is, in order, is the row. -/
theorem orderM_eq (words l : List Int) (p : l.Perm (liveM words words.length)) (h : l.Pairwise (fun a b => aheadB words a b = true)) : l = orderM words :=
  eq_of_sorted (fun a b => aheadB_asymm words a b) (p.trans (rowM_perm words _).symm) h (rowM_sorted words _)
end Go.Proofs.YtegdhojhnmgjgaaGreat
/- What stands in order, in plain Lean: its ends, without one thing, turned round, with one thing more. No program. -/
namespace Go.Proofs.YtegdhojhnmgjgaaGreat
theorem mem_liveM (words : List Int) : ∀ n (a : Int), a ∈ liveM words n ↔ 0 ≤ a ∧ a < n ∧ (unpack (getI words a)).state = 1
  | 0, a => by simp [liveM]; omega
  | n + 1, a => by
    have ih := mem_liveM words n a
    unfold liveM
    by_cases e : a = (n : Int)
    · subst e
      split
      · rename_i hs; simp [hs]; omega
      · rename_i hs; rw [ih]; simp [hs]
    · split
      · rw [List.mem_cons, ih]; simp only [e, false_or]; omega
      · rw [ih]; omega
theorem orderM_perm (words : List Int) : (orderM words).Perm (liveM words words.length) := rowM_perm words _
theorem orderM_sorted (words : List Int) : (orderM words).Pairwise (fun a b => aheadB words a b = true) := rowM_sorted words _
theorem mem_orderM (words : List Int) (a : Int) : a ∈ orderM words ↔ 0 ≤ a ∧ a < words.length ∧ (unpack (getI words a)).state = 1 :=
  (orderM_perm words).mem_iff.trans (mem_liveM words _ a)
theorem aheadB_irrefl (words : List Int) (a : Int) : aheadB words a a = false := by
  cases h : aheadB words a a with
  | false => rfl
  | true => exact (aheadB_asymm words a a h h).elim
theorem orderM_nodup (words : List Int) : (orderM words).Nodup := by
  refine (orderM_sorted words).imp (fun {a b} h e => ?_)
  subst e
  rw [aheadB_irrefl] at h
  cases h
theorem liveM_nodup (words : List Int) : ∀ n, (liveM words n).Nodup
  | 0 => List.nodup_nil
  | n + 1 => by
    unfold liveM
    split
    · refine List.nodup_cons.2 ⟨fun h => ?_, liveM_nodup words n⟩
      have := (mem_liveM words n n).1 h
      omega
    · exact liveM_nodup words n
/-- Whatever row holds the places in which something is, once each, in order, is the row. -/
theorem orderM_of (words l : List Int) (nd : l.Nodup) (hm : ∀ a, a ∈ l ↔ 0 ≤ a ∧ a < words.length ∧ (unpack (getI words a)).state = 1) (hs : l.Pairwise (fun a b => aheadB words a b = true)) : l = orderM words :=
  orderM_eq words l ((List.perm_ext_iff_of_nodup nd (liveM_nodup words _)).2 (fun a => (hm a).trans (mem_liveM words _ a).symm)) hs
theorem orderM_len (words : List Int) : (orderM words).length ≤ words.length := by
  rw [(orderM_perm words).length_eq]
  have : ∀ n, (liveM words n).length ≤ n := by
    intro n
    induction n with
    | zero => exact Nat.le_refl _
    | succ n ih => unfold liveM; split; (· simp; omega); (· omega)
  exact this _
/-! ### The ends -/
theorem atM_nil {words : List Int} (e : Int) (h : orderM words = []) : atM words e = -1 := by
  unfold atM; split <;> simp_all
theorem atM_left {words : List Int} {a : Int} {l : List Int} (h : orderM words = a :: l) : atM words 0 = a := by
  unfold atM; split <;> simp_all
theorem atM_right {words : List Int} {e : Int} (he : e ≠ 0) {a : Int} {l : List Int} (h : orderM words = l ++ [a]) : atM words e = a := by
  unfold atM
  split
  · simp_all
  · rename_i b m hb
    rw [if_neg he]
    have e2 : b :: m = l ++ [a] := by rw [← hb, h]
    simp [e2]
theorem atM_first (words : List Int) (i : Int) (hi : i ∈ orderM words) : i = atM words 0 ∨ aheadB words (atM words 0) i = true := by
  cases h : orderM words with
  | nil => rw [h] at hi; simp at hi
  | cons a l =>
    rw [atM_left h]
    rw [h] at hi
    rcases List.mem_cons.1 hi with e | e
    · exact .inl e
    · have := orderM_sorted words
      rw [h] at this
      exact .inr ((List.pairwise_cons.1 this).1 i e)
theorem snoc_of {α : Type} (l : List α) (h : l ≠ []) : ∃ m a, l = m ++ [a] := ⟨l.dropLast, l.getLast h, (List.dropLast_concat_getLast h).symm⟩
theorem atM_last (words : List Int) (e : Int) (he : e ≠ 0) (i : Int) (hi : i ∈ orderM words) : i = atM words e ∨ aheadB words i (atM words e) = true := by
  obtain ⟨m, a, h⟩ := snoc_of (orderM words) (fun h => by rw [h] at hi; simp at hi)
  rw [atM_right he h]
  rw [h] at hi
  rcases List.mem_append.1 hi with e | e
  · have := orderM_sorted words
    rw [h] at this
    exact .inr ((List.pairwise_append.1 this).2.2 i e a (by simp))
  · exact .inl (by simpa using e)
theorem atM_mem (words : List Int) (e : Int) (h : orderM words ≠ []) : atM words e ∈ orderM words := by
  by_cases he : e = 0
  · subst he
    cases h' : orderM words with
    | nil => exact (h h').elim
    | cons a l => rw [atM_left h']; simp
  · obtain ⟨m, a, h'⟩ := snoc_of _ h
    rw [atM_right he h', h']; simp
theorem atM_range (words : List Int) (e : Int) : (orderM words = [] ∧ atM words e = -1) ∨ (orderM words ≠ [] ∧ 0 ≤ atM words e ∧ atM words e < words.length ∧ (unpack (getI words (atM words e))).state = 1) := by
  by_cases h : orderM words = []
  · exact .inl ⟨h, atM_nil e h⟩
  · exact .inr ⟨h, (mem_orderM words _).1 (atM_mem words e h)⟩
/-! ### Put in one by one -/
theorem insB_split (words : List Int) (i : Int) : ∀ (l : List Int) (k : Nat), k ≤ l.length → (∀ j, j < k → aheadB words (l.getD j 0) i = true) → (k = l.length ∨ aheadB words (l.getD k 0) i = false) →
    insB words i l = l.take k ++ i :: l.drop k
  | [], k, h, _, _ => by
    have : k = 0 := by simpa using h
    subst this; rfl
  | a :: l, 0, _, _, h => by
    have : aheadB words a i = false := by
      rcases h with h | h
      · simp at h
      · simpa using h
    unfold insB
    rw [if_neg (by simp [this])]
    rfl
  | a :: l, k + 1, h, hj, h' => by
    have h0 : aheadB words a i = true := hj 0 (by omega)
    unfold insB
    rw [if_pos h0, insB_split words i l k (by simpa using h) (fun j hk => by have := hj (j + 1) (by omega); simpa using this) (by rcases h' with h' | h'; exact .inl (by simpa using h'); exact .inr (by simpa using h'))]
    rfl
theorem rowM_len (words : List Int) (n : Nat) : (rowM words n).length ≤ n := by
  rw [(rowM_perm words n).length_eq]
  have : ∀ n, (liveM words n).length ≤ n := by
    intro n
    induction n with
    | zero => exact Nat.le_refl _
    | succ n ih => unfold liveM; split; (· simp; omega); (· omega)
  exact this _
/-! ### Without one thing -/
theorem getI_setI (l : List Int) (k a x : Int) (hk : 0 ≤ k) (ha : 0 ≤ a) : getI (setI l k x) a = if a = k ∧ k < l.length then x else getI l a := by
  unfold getI setI
  rw [List.getD_eq_getElem?_getD, List.getElem?_set, List.getD_eq_getElem?_getD]
  by_cases h : a = k
  · subst h
    by_cases h2 : a < l.length
    · rw [if_pos rfl, if_pos (show a.toNat < l.length by omega), if_pos ⟨rfl, h2⟩]; rfl
    · rw [if_pos rfl, if_neg (by omega), if_neg (by omega), List.getElem?_eq_none (by omega)]
  · rw [if_neg (by omega), if_neg (by omega)]
theorem orderM_without (words : List Int) (k x : Int) (hk : k ∈ orderM words) (hx : (unpack x).state ≠ 1) : orderM (setI words k x) = (orderM words).erase k := by
  obtain ⟨k0, k1, ks⟩ := (mem_orderM words k).1 hk
  have G : ∀ a, 0 ≤ a → a ≠ k → getI (setI words k x) a = getI words a := fun a ha h => by rw [getI_setI words k a x k0 ha, if_neg (by omega)]
  have nd := orderM_nodup words
  refine (orderM_of _ _ (nd.erase k) (fun a => ?_) ?_).symm
  · rw [nd.mem_erase_iff, mem_orderM]
    have hl : (setI words k x).length = words.length := by simp [setI]
    rw [hl]
    by_cases h : a = k
    · subst h
      rw [getI_setI words a a x k0 k0, if_pos ⟨rfl, k1⟩]
      simp [hx]
    · constructor
      · rintro ⟨_, a0, a1, a2⟩; exact ⟨a0, a1, by rw [G a a0 h]; exact a2⟩
      · rintro ⟨a0, a1, a2⟩; exact ⟨h, a0, a1, by rw [G a a0 h] at a2; exact a2⟩
  · have := (orderM_sorted words).sublist (List.erase_sublist (a := k))
    refine this.imp_of_mem (fun {a b} ha hb h => ?_)
    obtain ⟨na, ha⟩ := nd.mem_erase_iff.1 ha
    obtain ⟨nb, hb⟩ := nd.mem_erase_iff.1 hb
    have a0 := ((mem_orderM words a).1 ha).1
    have b0 := ((mem_orderM words b).1 hb).1
    unfold aheadB at h ⊢
    rw [G a a0 na, G b b0 nb]
    exact h
/-- What stands at an end taken away: the others stand as they did. -/
theorem orderM_less (words : List Int) (e x : Int) (h : orderM words ≠ []) (hx : (unpack x).state ≠ 1) :
    orderM (setI words (atM words e) x) = if e = 0 then (orderM words).drop 1 else (orderM words).dropLast := by
  rw [orderM_without words _ x (atM_mem words e h) hx]
  have nd := orderM_nodup words
  by_cases he : e = 0
  · rw [if_pos he]
    subst he
    cases h' : orderM words with
    | nil => exact (h h').elim
    | cons a l => rw [atM_left h']; simp
  · rw [if_neg he]
    obtain ⟨m, a, h'⟩ := snoc_of _ h
    rw [atM_right he h', h']
    rw [h'] at nd
    have : a ∉ m := fun hm => by
      have := (List.nodup_append.1 nd).2.2 a hm a (by simp)
      exact this rfl
    rw [List.erase_append_right _ this]
    simp
/-! ### Packed and unpacked -/
theorem unpack_pack (w : WordM) (h : w.right = true) : unpack w.pack = w := by
  have h0 := h
  simp only [WordM.right, Top, Bool.and_eq_true, Bool.or_eq_true, decide_eq_true_eq] at h
  obtain ⟨⟨⟨⟨⟨⟨⟨⟨h1, h2⟩, h3⟩, h4⟩, h5⟩, h6⟩, h7⟩, h8⟩, h9⟩ := h
  unfold WordM.pack
  rw [if_pos h0]
  obtain ⟨s, f, g, lo, hi⟩ := w
  simp only at h1 h2 h3 h4 h5 h6 h7 h8 h9
  simp only [unpack, WordM.mk.injEq, StampM.mk.injEq]
  refine ⟨?_, ?_, ?_, ?_, ?_⟩ <;> omega
theorem unpack_right (x : Int) (h : (unpack x).state ≤ 2) : (unpack x).right = true := by
  have e : x % 4 ≤ 2 := h
  have e1 : 0 ≤ x % 4 := by omega
  have e2 : x / 4 % 2 = 0 ∨ x / 4 % 2 = 1 := by omega
  have e3 : 0 ≤ x / 8 % 8192 ∧ x / 8 % 8192 ≤ 8191 := by omega
  have e4 : 0 ≤ x / 65536 % 16777216 ∧ x / 65536 % 16777216 ≤ 16777215 := by omega
  have e5 : 0 ≤ x / 1099511627776 % 16777216 ∧ x / 1099511627776 % 16777216 ≤ 16777215 := by omega
  simp [WordM.right, unpack, e, e1, e3, e4, e5]
  exact e2.imp (fun h => by simp [h]) (fun h => by simp [h])
theorem pack_bdP (w : WordM) : 0 ≤ w.pack ∧ w.pack < 18446744073709551616 := by
  unfold WordM.pack
  split
  · rename_i h
    simp only [WordM.right, Top, Bool.and_eq_true, Bool.or_eq_true, decide_eq_true_eq] at h
    omega
  · omega
/-! ### Turned round -/
def otherM (e : Int) : Int := if e = 0 then 1 else 0
def WordM.turned (w : WordM) : WordM := if w.state = 1 then { w with fin := otherM w.fin } else ⟨0, 1, 0, ⟨0, 0⟩⟩
def turnedM (words : List Int) : List Int := words.map (fun x => (unpack x).turned.pack)
theorem turned_right (x : Int) : (unpack x).turned.right = true := by
  unfold WordM.turned
  split
  · rename_i h
    have := unpack_right x (by omega)
    simp only [WordM.right, otherM, Bool.and_eq_true, Bool.or_eq_true, decide_eq_true_eq] at this ⊢
    refine ⟨⟨⟨⟨⟨⟨⟨⟨?_, ?_⟩, ?_⟩, ?_⟩, ?_⟩, ?_⟩, ?_⟩, ?_⟩, ?_⟩ <;> (first | omega | (split <;> simp))
  · rfl
theorem getI_turned (words : List Int) (a : Int) (h0 : 0 ≤ a) (h1 : a < words.length) : unpack (getI (turnedM words) a) = (unpack (getI words a)).turned := by
  have h2 : a.toNat < words.length := by omega
  have : getI (turnedM words) a = (unpack (getI words a)).turned.pack := by
    unfold getI turnedM
    rw [List.getD_eq_getElem?_getD, List.getD_eq_getElem?_getD, List.getElem?_map, List.getElem?_eq_getElem h2]
    rfl
  rw [this, unpack_pack _ (turned_right _)]
theorem orderM_turned (words : List Int) : orderM (turnedM words) = (orderM words).reverse := by
  have hl : (turnedM words).length = words.length := by simp [turnedM]
  refine (orderM_of _ _ (List.pairwise_reverse.2 ((orderM_nodup words).imp (fun h => Ne.symm h))) (fun a => ?_) ?_).symm
  · rw [List.mem_reverse, mem_orderM, hl]
    constructor
    · rintro ⟨a0, a1, a2⟩
      refine ⟨a0, a1, ?_⟩
      rw [getI_turned words a a0 a1, WordM.turned, if_pos a2]
      exact a2
    · rintro ⟨a0, a1, a2⟩
      refine ⟨a0, a1, ?_⟩
      rw [getI_turned words a a0 a1, WordM.turned] at a2
      split at a2
      · rename_i h; exact h
      · simp at a2
  · rw [List.pairwise_reverse]
    refine (orderM_sorted words).imp_of_mem (fun {a b} ha hb h => ?_)
    obtain ⟨a0, a1, a2⟩ := (mem_orderM words a).1 ha
    obtain ⟨b0, b1, b2⟩ := (mem_orderM words b).1 hb
    have ea := getI_turned words a a0 a1
    have eb := getI_turned words b b0 b1
    have hx : (unpack (getI words a)).fin = 0 ∨ (unpack (getI words a)).fin = 1 := by simp only [unpack]; omega
    have hy : (unpack (getI words b)).fin = 0 ∨ (unpack (getI words b)).fin = 1 := by simp only [unpack]; omega
    unfold aheadB at h ⊢
    rw [ea, eb]
    unfold WordM.turned
    rw [if_pos a2, if_pos b2]
    generalize unpack (getI words a) = x at *
    generalize unpack (getI words b) = y at *
    simp only [laterB_iff, otherM] at h ⊢
    rcases hx with hx | hx <;> rcases hy with hy | hy <;> simp only [hx, hy] at h ⊢ <;> simp_all
/-! ### One thing more -/
def liveW (e at' : Int) : WordM := ⟨1, e, 1, ⟨at', at'⟩⟩
theorem getI_snoc (words : List Int) (x a : Int) (h0 : 0 ≤ a) : getI (words ++ [x]) a = if a = words.length then x else getI words a := by
  unfold getI
  rw [List.getD_eq_getElem?_getD, List.getD_eq_getElem?_getD]
  by_cases h : a = words.length
  · rw [if_pos h]; subst h; simp
  · rw [if_neg h]
    by_cases h2 : a < words.length
    · rw [List.getElem?_append_left (by omega)]
    · rw [List.getElem?_append_right (by omega), List.getElem?_eq_none (by simp; omega), List.getElem?_eq_none (by omega)]
theorem atM_newest (words : List Int) (e x most : Int) (he : e = 0 ∨ e = 1) (hx : unpack x = liveW e (most + 1)) (hm : ∀ a : Int, 0 ≤ a → a < words.length → (unpack (getI words a)).state = 1 → (unpack (getI words a)).stamp.lo ≤ most) :
    atM (words ++ [x]) e = words.length := by
  have hn : (words.length : Int) ∈ orderM (words ++ [x]) := by
    rw [mem_orderM, getI_snoc _ _ _ (by omega), if_pos rfl, hx]
    refine ⟨by omega, by simp; omega, rfl⟩
  have hne : orderM (words ++ [x]) ≠ [] := fun h => by rw [h] at hn; simp at hn
  have hk := atM_mem (words ++ [x]) e hne
  have hd : atM (words ++ [x]) e = words.length ∨ (if e = 0 then aheadB (words ++ [x]) (atM (words ++ [x]) e) words.length = true else aheadB (words ++ [x]) words.length (atM (words ++ [x]) e) = true) := by
    rcases he with rfl | rfl
    · exact (atM_first _ _ hn).imp Eq.symm (fun h => by simpa using h)
    · exact (atM_last _ 1 (by omega) _ hn).imp Eq.symm (fun h => by simpa using h)
  rcases hd with h | h
  · exact h
  · generalize atM (words ++ [x]) e = k at *
    obtain ⟨k0, k1, k2⟩ := (mem_orderM _ k).1 hk
    by_cases e2 : k = words.length
    · exact e2
    · have kl : k < words.length := by simp at k1; omega
      rw [getI_snoc _ _ _ k0, if_neg e2] at k2
      have hlo := hm k k0 kl k2
      have hf : (unpack (getI words k)).fin = 0 ∨ (unpack (getI words k)).fin = 1 := by simp only [unpack]; omega
      unfold aheadB at h
      rw [getI_snoc _ _ k k0, if_neg e2, getI_snoc _ _ (words.length : Int) (by omega), if_pos rfl, hx] at h
      simp only [laterB_iff, liveW] at h
      generalize unpack (getI words k) = y at *
      rcases he with rfl | rfl <;> rcases hf with hf | hf <;> simp [hf] at h <;> omega
end Go.Proofs.YtegdhojhnmgjgaaGreat
/- A row of one's own, of elements of k cells, behind the library's sort: what it holds. No program; no condition. -/
namespace Go.SepYtegdhojhnmgjgaaGreat
open Go.RowKit Go.Sort Go.Proofs
set_option linter.unusedSectionVars false
section
variable {E w : World} {L : List SA} {α : Type} [Inhabited α] {enc : α → List Value} {k : Nat}
theorem flatMap_get (hk : ∀ x, (enc x).length = k) (h0 : 0 < k) : ∀ (l : List α) (t : Nat), (l.flatMap enc)[t]? = (l[t / k]?).bind (fun x => (enc x)[t % k]?)
  | [], t => by simp
  | a :: l, t => by
    rw [List.flatMap_cons, List.getElem?_append]
    by_cases h : t < k
    · rw [if_pos (by rw [hk]; exact h), Nat.div_eq_of_lt h, Nat.mod_eq_of_lt h]; rfl
    · rw [if_neg (by rw [hk]; exact h), hk, flatMap_get hk h0 l]
      obtain ⟨u, rfl⟩ : ∃ u, t = u + k := ⟨t - k, by omega⟩
      rw [Nat.add_sub_cancel, Nat.add_div_right u h0, Nat.add_mod_right]
      simp
theorem flatMap_len (hk : ∀ x, (enc x).length = k) (l : List α) : (l.flatMap enc).length = l.length * k := by
  induction l with
  | nil => simp
  | cons a l ih => rw [List.flatMap_cons, List.length_append, ih, hk, List.length_cons, Nat.add_mul]; omega
theorem flatK_list (hk : ∀ x, (enc x).length = k) (h0 : 0 < k) (d : Array α) : (flatK enc k d).toList = d.toList.flatMap enc := by
  apply List.ext_getElem?
  intro t
  rw [flatMap_get hk h0]
  by_cases ht : t < d.size * k
  · have hq : t / k < d.size := Nat.div_lt_of_lt_mul (by rwa [Nat.mul_comm] at ht)
    have hm : t % k < k := Nat.mod_lt _ h0
    rw [Array.getElem?_toList, Array.getElem?_eq_getElem (by simpa using ht)]
    have := get_flatK enc k d t ht
    rw [getElem!_pos _ t (by simpa using ht)] at this
    rw [this]
    have h1 : d.toList[t / k]? = some d[t / k]! := by rw [Array.getElem?_toList, Array.getElem?_eq_getElem hq, getElem!_pos d _ hq]
    rw [h1]
    show _ = (enc d[t / k]!)[t % k]?
    rw [List.getElem?_eq_getElem (by rw [hk]; exact hm), getElem!_pos (enc d[t / k]!) (t % k) (by rw [hk]; exact hm)]
  · have hq : ¬ t / k < d.size := fun h => ht ((Nat.div_lt_iff_lt_mul h0).1 h)
    rw [List.getElem?_eq_none (by simpa using ht)]
    rw [List.getElem?_eq_none (by simpa using hq)]
    rfl
theorem sat.holdsK {e n g cap : Nat} (hk : ∀ x, (enc x).length = k) (h0 : 0 < k) (d : Array α) (hn : d.size = n) (h : sat E w (rowA (.slice (some ⟨g, 0, none⟩) n cap) e k n (d.toList.flatMap enc) :: L)) : HoldsK enc k w g 0 d := by
  intro j hj
  have hj' : j < (d.toList.flatMap enc).length := by rw [flatMap_len hk]; simpa using hj
  have e1 : (d.toList.flatMap enc)[j]? = some (flatK enc k d)[j]! := by
    rw [← flatK_list hk h0, Array.getElem?_toList, Array.getElem?_eq_getElem hj, getElem!_pos _ j hj]
  obtain ⟨_, h1, h2, _⟩ := h.row_cell j e1
  rw [Nat.zero_add]
  exact ⟨h1, h2⟩
theorem heap_sortedV {g n : Nat} {os : Array Obj} {cur : Array Value} {e : TypeId} {fr : Nat × Nat} (F : Array Value) (hb : w.heap[g]? = some (.cells cur e fr)) :
    (grow (putRow id (Sort.ahead w n) g 0 F) os).heap[g]? = some (.cells (putCells id 0 F cur) e fr) := by
  have hg : g < w.heap.size := (Array.getElem?_eq_some_iff.1 hb).1
  rw [heap_grow_old _ _ (by simpa using hg)]
  simp [putRow, mapBlock, Sort.ahead, Array.getElem?_modify, hb, onCells]
theorem grownBy_sortedV {g n : Nat} {os : Array Obj} (F : Array Value) : w.grownBy (grow (putRow id (Sort.ahead w n) g 0 F) os) (some g) := by
  refine ⟨rfl, rfl, rfl, by simp, fun k hk hne => ?_⟩
  rw [heap_grow_old _ _ (by simpa using hk)]
  have : g ≠ k := fun e => hne (by rw [e])
  simp [putRow, mapBlock, Sort.ahead, Array.getElem?_modify, this]
theorem take_putCellsV (cur F : Array Value) (h : F.size ≤ cur.size) : (putCells id 0 F cur).toList.take F.size = F.toList := by
  apply List.ext_getElem?
  intro j
  by_cases hj : j < F.size
  · rw [List.getElem?_take_of_lt hj, Array.getElem?_toList, Array.getElem?_toList, Array.getElem?_eq_getElem hj]
    simp [putCells, hj, show j < cur.size by omega]
  · rw [List.getElem?_take_eq_none (by omega), List.getElem?_eq_none (by simp; omega)]
/-- The row behind the sort. -/
theorem sat.sortedK {e n g cap m : Nat} {os : Array Obj} {xs : List Value} (hk : ∀ x, (enc x).length = k) (h0 : 0 < k) (d : Array α) (hn : d.size = n) (h : sat E w (rowA (.slice (some ⟨g, 0, none⟩) n cap) e k n xs :: L)) :
    sat E (sortWorldK enc k w g 0 m d os) (rowA (.slice (some ⟨g, 0, none⟩) n cap) e k n (d.toList.flatMap enc) :: L) := by
  obtain ⟨hl, ⟨q, _⟩ | ⟨g', cap', cur, q, h1, h2, h3, h4, h5⟩⟩ := h.row_open
  · simp at q
  · simp at q
    obtain ⟨rfl, rfl⟩ := q
    have hz : (flatK enc k d).size = n * k := by simp [hn]
    refine sat.row_shut (cur := putCells id 0 (flatK enc k d) cur) ?_ h1 h2 ?_ ?_ (h5.turn (grownBy_sortedV _) (heap_sortedV _ h5.at))
    · rw [flatMap_len hk]; simp [hn]
    · simp [putCells, h3]
    · rw [← hz, take_putCellsV _ _ (by rw [hz, h3]; exact Nat.mul_le_mul_right k h1), flatK_list hk h0]
end
end Go.SepYtegdhojhnmgjgaaGreat
/- The library's sort (slices.SortFunc) at things in places, by the order in which they came, and by that order turned round. Conditions: fewer than 2^62 things. -/
namespace Go.Proofs
open Go.Shelf Go.RowKit Go.Lib Go.Sort
shelf_lay_g SlLaysF0.n6 Slsf 6 at Tryz 116 as Tryz.sortThing
namespace YtegdhojhnmgjgaaGreat
open Go.SepYtegdhojhnmgjgaaGreat
theorem Grn.grow {w w' : World} (h : Grn w w') : ∃ q os', w' = grow (w.drewN q) os' := by
  refine ⟨w'.drawn - w.drawn, w'.heap.extract w.heap.size w'.heap.size, ?_⟩
  obtain ⟨b, d⟩ := h
  obtain ⟨hp, tp, dr, o, out⟩ := w
  obtain ⟨hp', tp', dr', o', out'⟩ := w'
  obtain ⟨e1, e2, e3, e4, e5⟩ := b
  simp only at e1 e2 e3 e4 e5 d
  subst e1 e2 e3
  simp only [Sort.grow, World.drewN, World.mk.injEq, true_and, and_true]
  refine ⟨?_, by omega⟩
  apply Array.ext_getElem?
  intro i
  by_cases hi : i < hp.size
  · rw [e5 i hi, Array.getElem?_append_left hi]
  · rw [Array.getElem?_append_right (by omega)]
    by_cases hj : i < hp'.size
    · rw [Array.getElem?_extract, if_pos (by omega)]; congr 1; omega
    · rw [Array.getElem?_eq_none (by omega), Array.getElem?_eq_none (by simp; omega)]
instance : Inhabited WordM := ⟨⟨0, 0, 0, ⟨0, 0⟩⟩⟩
theorem cmp_lays (blk off size : Nat) (w : World) : CmpLays Tryz.prog 118 #[] thingC 6 tcmp blk off size w := fun _ _ _ _ x y => (tcmp_calls x y _).mono fun _ _ ⟨he, hg⟩ => ⟨he, hg.grow⟩
theorem rev_lays (blk off size : Nat) (w : World) : CmpLays Tryz.prog 117 #[] thingC 6 (fun a b => tcmp b a) blk off size w := fun _ _ _ _ x y => (trev_calls x y _).mono fun _ _ ⟨he, hg⟩ => ⟨he, hg.grow⟩
theorem tcmp_lt (a b : Thing) : ltOf tcmp a b = decide (a.2.stamp.lo < b.2.stamp.lo ∨ (a.2.stamp.lo = b.2.stamp.lo ∧ (a.2.stamp.hi < b.2.stamp.hi ∨ (a.2.stamp.hi = b.2.stamp.hi ∧ a.1 < b.1)))) := by
  unfold ltOf tcmp or2 StampM.cmp cmpI
  congr 1
  apply propext
  (repeat' split) <;> omega
theorem tcmp_swo : SWO (ltOf tcmp) where
  irrefl x := by rw [tcmp_lt]; simp
  trans x y z h1 h2 := by rw [tcmp_lt] at *; simp only [decide_eq_true_eq] at *; omega
  ntrans x y z h1 h2 := by rw [tcmp_lt] at *; simp only [decide_eq_false_iff_not] at *; omega
theorem rcmp_lt (a b : Thing) : ltOf (fun a b => tcmp b a) a b = ltOf tcmp b a := rfl
theorem rcmp_swo : SWO (ltOf (fun a b => tcmp b a)) where
  irrefl x := by rw [rcmp_lt]; exact tcmp_swo.irrefl x
  trans x y z h1 h2 := by rw [rcmp_lt] at *; exact tcmp_swo.trans z y x h2 h1
  ntrans x y z h1 h2 := by rw [rcmp_lt] at *; exact tcmp_swo.ntrans z y x h2 h1
end YtegdhojhnmgjgaaGreat
end Go.Proofs
/- The library's sort at a row of one's own of things: a permutation, in order. Conditions: fewer than 2^62 things. -/
namespace Go.Proofs.YtegdhojhnmgjgaaGreat
open Go.Shelf Go.RowKit Go.Lib Go.Sort Go.SepYtegdhojhnmgjgaaGreat
theorem thing_len (x : Thing) : (thingC x).length = 6 := rfl
theorem perm_whole {α : Type} [Inhabited α] {d d' : Array α} (h : PermIn 0 d.size d d') : d'.size = d.size ∧ d'.toList.Perm d.toList := by
  obtain ⟨h1, _, h2⟩ := h
  refine ⟨h1, ?_⟩
  rw [show d'.extract 0 d.size = d' by rw [← h1]; simp, show d.extract 0 d.size = d by simp] at h2
  exact h2
theorem sorted_whole {α : Type} [Inhabited α] {lt : α → α → Bool} {d : Array α} (h : SortedIn lt 0 d.size d) : d.toList.Pairwise (fun a b => lt b a = false) := by
  rw [List.pairwise_iff_getElem]
  intro i j hi hj hij
  have := h i j (Nat.zero_le _) hij (by simpa using hj)
  rw [getElem!_pos d j (by simpa using hj), getElem!_pos d i (by simpa using hi)] at this
  simpa using this
theorem sort_some {E w : World} {L : List SA} {g n cap : Nat} (f : Nat) (cf : Thing → Thing → Int) (hO : SWO (ltOf cf)) (eg : ∀ args w, (callFunc f args).run Tryz.prog w = .ok (.enter f args) w)
    (hc : ∀ blk off size w, CmpLays Tryz.prog f #[] thingC 6 cf blk off size w) (l : List Thing) (hn : l.length = n) (hlt : n < 4611686018427387904)
    (h : sat E w (rowA (.slice (some ⟨g, 0, none⟩) n cap) 175 6 n (l.flatMap thingC) :: L)) (hg : g < w.heap.size) :
    Calls Tryz.prog 116 #[.slice (some ⟨g, 0, none⟩) n cap, .func (.func f) #[] #[]] w fun e w' =>
      e = .returned (.tuple #[]) ∧ ∃ l' : List Thing, l'.Perm l ∧ l'.Pairwise (fun a b => ltOf cf b a = false) ∧ sat E w' (rowA (.slice (some ⟨g, 0, none⟩) n cap) 175 6 n (l'.flatMap thingC) :: L) := by
  subst hn
  have hH : HoldsK thingC 6 w g 0 l.toArray := sat.holdsK (n := l.length) (cap := cap) thing_len (by decide) l.toArray (by simp) (by simpa using h)
  have hcon := AnyQ.slices_SortFunc Tryz.sortThing 6 Tryz.isAgg175 Tryz.sizeOf175 thingC thing_len (fun x v hv => by simp [thingC] at hv; rcases hv with rfl | rfl | rfl | rfl | rfl | rfl <;> rfl) cf hO f #[] g 0 cap l.toArray w eg (hc _ _ _ _) hH hg (by simpa using hlt)
  change Calls Tryz.prog 116 _ _ _ at hcon
  simp only [List.size_toArray] at hcon
  refine hcon.mono fun e w' ⟨he, d', m, os, hp, hs, hw⟩ => ?_
  obtain ⟨h1, h2⟩ := perm_whole (d := l.toArray) (by simpa using hp)
  have h1' : d'.size = l.length := by simpa using h1
  refine ⟨he, d'.toList, by simpa using h2, sorted_whole (by rw [h1']; exact hs), ?_⟩
  subst hw
  exact sat.sortedK thing_len (by decide) d' h1' h
end Go.Proofs.YtegdhojhnmgjgaaGreat
/- Things sorted by how they came, those of the left end turned round, stand in order. Plain Lean over the comparison. -/
namespace Go.Proofs.YtegdhojhnmgjgaaGreat
open Go.Sort
def leftT (words : List Int) : Nat → List Thing
  | 0 => []
  | n + 1 => if (unpack (getI words n)).state = 1 ∧ (unpack (getI words n)).fin = 0 then leftT words n ++ [((n : Int), unpack (getI words n))] else leftT words n
def rightT (words : List Int) : Nat → List Thing
  | 0 => []
  | n + 1 => if (unpack (getI words n)).state = 1 ∧ (unpack (getI words n)).fin ≠ 0 then rightT words n ++ [((n : Int), unpack (getI words n))] else rightT words n
theorem leftT_mem (words : List Int) : ∀ n, ∀ t ∈ leftT words n, t.2 = unpack (getI words t.1) ∧ t.2.fin = 0 ∧ t.1 < n
  | 0, t, h => by simp [leftT] at h
  | n + 1, t, h => by
    unfold leftT at h
    split at h
    · rename_i hs
      rcases List.mem_append.1 h with e | e
      · have := leftT_mem words n t e; exact ⟨this.1, this.2.1, by omega⟩
      · obtain rfl := List.mem_singleton.1 e; exact ⟨rfl, hs.2, by simp; omega⟩
    · have := leftT_mem words n t h; exact ⟨this.1, this.2.1, by omega⟩
theorem rightT_mem (words : List Int) : ∀ n, ∀ t ∈ rightT words n, t.2 = unpack (getI words t.1) ∧ t.2.fin ≠ 0 ∧ t.1 < n
  | 0, t, h => by simp [rightT] at h
  | n + 1, t, h => by
    unfold rightT at h
    split at h
    · rename_i hs
      rcases List.mem_append.1 h with e | e
      · have := rightT_mem words n t e; exact ⟨this.1, this.2.1, by omega⟩
      · obtain rfl := List.mem_singleton.1 e; exact ⟨rfl, hs.2, by simp; omega⟩
    · have := rightT_mem words n t h; exact ⟨this.1, this.2.1, by omega⟩
theorem both_perm (words : List Int) : ∀ n, ((leftT words n ++ rightT words n).map Prod.fst).Perm (liveM words n)
  | 0 => List.Perm.refl _
  | n + 1 => by
    have ih := both_perm words n
    unfold leftT rightT liveM
    by_cases hs : (unpack (getI words n)).state = 1
    · rw [if_pos hs]
      by_cases hf : (unpack (getI words n)).fin = 0
      · rw [if_pos ⟨hs, hf⟩, if_neg (fun h => h.2 hf)]
        simp only [List.map_append, List.map_cons, List.map_nil, List.append_assoc, List.cons_append, List.nil_append] at *
        exact List.perm_middle.trans (List.Perm.cons _ ih)
      · rw [if_neg (fun h => hf h.2), if_pos ⟨hs, hf⟩]
        simp only [List.map_append, List.map_cons, List.map_nil] at *
        rw [← List.append_assoc]
        exact (List.perm_append_singleton _ _).trans (List.Perm.cons _ ih)
    · rw [if_neg hs, if_neg (fun h => hs h.1), if_neg (fun h => hs h.1)]
      exact ih
theorem leftT_nodup (words : List Int) : ∀ n, ((leftT words n).map Prod.fst).Nodup
  | 0 => by simp [leftT]
  | n + 1 => by
    unfold leftT
    split
    · rw [List.map_append, List.nodup_append]
      refine ⟨leftT_nodup words n, by simp, fun a ha b hb => ?_⟩
      obtain ⟨t, ht, rfl⟩ := List.mem_map.1 ha
      have := (leftT_mem words n t ht).2.2
      simp at hb
      omega
    · exact leftT_nodup words n
theorem rightT_nodup (words : List Int) : ∀ n, ((rightT words n).map Prod.fst).Nodup
  | 0 => by simp [rightT]
  | n + 1 => by
    unfold rightT
    split
    · rw [List.map_append, List.nodup_append]
      refine ⟨rightT_nodup words n, by simp, fun a ha b hb => ?_⟩
      obtain ⟨t, ht, rfl⟩ := List.mem_map.1 ha
      have := (rightT_mem words n t ht).2.2
      simp at hb
      omega
    · exact rightT_nodup words n
/-- What the program lays down is the row. -/
theorem order_row (words : List Int) (l r : List Thing) (pl : l.Perm (leftT words words.length)) (pr : r.Perm (rightT words words.length))
    (hl : l.Pairwise (fun a b => ltOf (fun a b => tcmp b a) b a = false)) (hr : r.Pairwise (fun a b => ltOf tcmp b a = false)) : (l ++ r).map Prod.fst = orderM words := by
  refine orderM_eq words _ (((pl.append pr).map Prod.fst).trans (both_perm words _)) ?_
  rw [List.pairwise_map, List.pairwise_append]
  refine ⟨?_, ?_, fun a ha b hb => ?_⟩
  · have nd := (pl.map Prod.fst).nodup_iff.2 (leftT_nodup words _)
    rw [List.Nodup, List.pairwise_map] at nd
    refine ((hl.and nd).imp_of_mem ?_)
    rintro a b ha hb ⟨h, hne⟩
    obtain ⟨e1, f1, _⟩ := leftT_mem words _ a (pl.mem_iff.1 ha)
    obtain ⟨e2, f2, _⟩ := leftT_mem words _ b (pl.mem_iff.1 hb)
    rw [rcmp_lt, tcmp_lt, decide_eq_false_iff_not] at h
    unfold aheadB
    rw [← e1, ← e2]
    simp only [laterB_iff, f1, f2]
    simp only [ne_eq, not_true, if_false, if_true, decide_eq_true_eq]
    omega
  · have nd := (pr.map Prod.fst).nodup_iff.2 (rightT_nodup words _)
    rw [List.Nodup, List.pairwise_map] at nd
    refine ((hr.and nd).imp_of_mem ?_)
    rintro a b ha hb ⟨h, hne⟩
    obtain ⟨e1, f1, _⟩ := rightT_mem words _ a (pr.mem_iff.1 ha)
    obtain ⟨e2, f2, _⟩ := rightT_mem words _ b (pr.mem_iff.1 hb)
    have g1 : a.2.fin = 1 := by have : a.2.fin = 0 ∨ a.2.fin = 1 := by rw [e1]; simp only [unpack]; omega
                                omega
    have g2 : b.2.fin = 1 := by have : b.2.fin = 0 ∨ b.2.fin = 1 := by rw [e2]; simp only [unpack]; omega
                                omega
    rw [tcmp_lt, decide_eq_false_iff_not] at h
    unfold aheadB
    rw [← e1, ← e2]
    simp only [laterB_iff, g1, g2]
    simp
    omega
  · obtain ⟨e1, f1, _⟩ := leftT_mem words _ a (pl.mem_iff.1 ha)
    obtain ⟨e2, f2, _⟩ := rightT_mem words _ b (pr.mem_iff.1 hb)
    unfold aheadB
    rw [← e1, ← e2]
    simp only [f1]
    rw [if_pos (fun h => f2 h.symm)]
    rfl
end Go.Proofs.YtegdhojhnmgjgaaGreat
/- Rows of one's own and words that are not, as the laws of pick read them. Plain lemmas; no condition. -/
namespace Go.Proofs.YtegdhojhnmgjgaaGreat
open Go.RowKit Go.SepYtegdhojhnmgjgaaGreat
set_option maxRecDepth 100000
theorem box2_at (w : World) (o1 : Obj) (l : List Value) (t : TypeId) (j : Nat) (u : Value) (h : l[j]? = some u) : ((w.alloc o1).alloc (.cells l.toArray t)).cell? ⟨w.heap.size + 1, 0 + j, none⟩ = some u := by
  rw [Nat.zero_add, World.cell?_alloc_at _ _ _ _ (by simp)]
  simpa using h
theorem thingInfo : ∃ q z, Tryz.prog.info? 175 = some q ∧ q.zero = some z ∧ q.size = 6 ∧ q.bytes = 48 ∧ z.cells.size = 6 := ⟨_, _, rfl, rfl, rfl, rfl, rfl⟩
theorem intInfo : ∃ q z, Tryz.prog.info? 3 = some q ∧ q.zero = some z ∧ q.size = 1 ∧ q.bytes = 8 ∧ z.cells.size = 1 := ⟨_, _, rfl, rfl, rfl, rfl, rfl⟩
theorem flat_get : ∀ (l : List Thing) (n : Nat) (h : n < l.length) (j : Nat), j < 6 → (l.flatMap thingC)[n * 6 + j]? = (thingC l[n])[j]?
  | a :: l, 0, _, j, hj => by simp only [List.flatMap_cons, Nat.zero_mul, Nat.zero_add]; rw [List.getElem?_append_left (by show j < 6; omega)]; rfl
  | a :: l, n + 1, h, j, hj => by
    have e : (thingC a).length = 6 := rfl
    simp only [List.flatMap_cons]
    rw [List.getElem?_append_right (by omega), show (n + 1) * 6 + j - (thingC a).length = n * 6 + j by omega, flat_get l n (by simpa using h) j hj]
    rfl
theorem thing_at {E w : World} {L : List SA} {g c : Nat} {T : List Thing} (h : sat E w (rowA (.slice (some ⟨g, 0, none⟩) T.length c) 175 6 T.length (T.flatMap thingC) :: L)) (n : Nat) (hn : n < T.length) :
    w.cell? ⟨g, n * 6, none⟩ = some (.int .i64 T[n].1) ∧ w.cell? ⟨g, n * 6 + 1, none⟩ = some (.int .i64 T[n].2.state) ∧ w.cell? ⟨g, n * 6 + 2, none⟩ = some (.int .i64 T[n].2.fin) ∧
    w.cell? ⟨g, n * 6 + 3, none⟩ = some (.int .i64 T[n].2.gen) ∧ w.cell? ⟨g, n * 6 + 4, none⟩ = some (.int .i64 T[n].2.stamp.lo) ∧ w.cell? ⟨g, n * 6 + 5, none⟩ = some (.int .i64 T[n].2.stamp.hi) :=
  ⟨h.row_rd 0 rfl _ _ (flat_get T n hn 0 (by omega)), h.row_rd 0 rfl _ _ (flat_get T n hn 1 (by omega)), h.row_rd 0 rfl _ _ (flat_get T n hn 2 (by omega)), h.row_rd 0 rfl _ _ (flat_get T n hn 3 (by omega)), h.row_rd 0 rfl _ _ (flat_get T n hn 4 (by omega)), h.row_rd 0 rfl _ _ (flat_get T n hn 5 (by omega))⟩
/-- The cells of a slice of words that is not one's own. -/
def OldU (w : World) (p : Option Addr) (words : List Int) : Prop := ∀ j, (hj : j < words.length) → ∃ b off, p = some ⟨b, off, none⟩ ∧ b < w.heap.size ∧ w.cell? ⟨b, off + j, none⟩ = some (.int .u64 words[j])
theorem OldU.grown {w w' : World} {p : Option Addr} {words : List Int} (h : OldU w p words) (b : Below w.heap.size w w') : OldU w' p words := fun j hj => by
  obtain ⟨c, off, h1, h2, h3⟩ := h j hj
  exact ⟨c, off, h1, Nat.lt_of_lt_of_le h2 b.size, (b.cell (p := ⟨c, off + j, none⟩) h2).trans h3⟩
theorem thing_one (l : List Thing) : ∀ u ∈ l.flatMap thingC, u.oneCell' = true := by
  intro u hu
  obtain ⟨t, _, ht⟩ := List.mem_flatMap.1 hu
  simp [thingC] at ht
  rcases ht with rfl | rfl | rfl | rfl | rfl | rfl <;> rfl
theorem thing_flat (l : List Thing) : (l.flatMap thingC).length = l.length * 6 := by
  induction l with
  | nil => rfl
  | cons a l ih => simp only [List.flatMap_cons, List.length_append, ih, List.length_cons]; show 6 + _ = _; omega
theorem row_len {E w : World} {L : List SA} {p : Option Addr} {m c e size n : Nat} {xs : List Value} (h : sat E w (rowA (.slice p m c) e size n xs :: L)) : m = n ∧ ((p = none ∧ n = 0) ∨ ∃ g, p = some ⟨g, 0, none⟩) := by
  obtain ⟨_, ⟨h0, h1, _⟩ | ⟨g, cap, cur, h0, _⟩⟩ := h.row_open
  · simp at h0; exact ⟨by omega, .inl ⟨h0.1, h1⟩⟩
  · simp at h0; exact ⟨h0.2.1, .inr ⟨g, h0.1⟩⟩
theorem row_any {E w : World} {L : List SA} {v : Value} {e size n : Nat} {xs : List Value} (h : sat E w (rowA v e size n xs :: L)) : ∃ p c, v = .slice p n c := by
  obtain ⟨p, m, c, rfl⟩ := h.row_slice
  obtain ⟨rfl, _⟩ := row_len h
  exact ⟨p, c, rfl⟩
theorem row_pos {E w : World} {L : List SA} {v : Value} {e size n : Nat} {xs : List Value} (h : sat E w (rowA v e size n xs :: L)) (hn : 0 < n) : ∃ g c, v = .slice (some ⟨g, 0, none⟩) n c := by
  obtain ⟨p, m, c, rfl⟩ := h.row_slice
  obtain ⟨rfl, ⟨_, h0⟩ | ⟨g, rfl⟩⟩ := row_len h
  · omega
  · exact ⟨g, c, rfl⟩
end Go.Proofs.YtegdhojhnmgjgaaGreat
