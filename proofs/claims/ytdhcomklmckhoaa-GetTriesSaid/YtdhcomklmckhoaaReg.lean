/- A region that draws its order: an operation taken first, its slot named. Plain lemmas over any program; no condition. -/
import Derived.Test.YtdhcomklmckhoaaStep
import Derived.Deep.RegionHeld3
import Derived.WalkKit
import Derived.KernelRfl
namespace Go.SepYtdhcomklmckhoaa
open Go Go.RowKit
set_option linter.unusedVariables false
section
variable {P : Program} {ops : Array Oper} {Q : Exit → Act → World → Prop} {md : Region.Mode} {S : World → Prop}
theorem tk (i : Nat) (d : Option Tmp) {oi : Oper} {v : Value} {fuel : Nat} {listed : Array Bool} {a : Act} {w : World}
    (h : wpAnyH P md ops Q S fuel (listed.setIfInBounds i true) (a.put d v) w) (hi : ops[i]? = some oi := by rfl) (hd : oi.dst = d := by rfl)
    (hs : Region.noSelect ops = true := by kernel_rfl) (hf : Region.free md ops listed i = true := by kernel_rfl) (hr : (Region.ready md ops listed).contains i = true := by kernel_rfl)
    (hQ : ∀ c a w, Q (.panic c) (a.put d v) w → Q (.panic c) a w := by exact fun _ _ _ h => h) (hw : Region.wanted oi (yielded ops a.tmps) = true := by kernel_rfl)
    (hy : ∀ w, S w → (execOp a.eval oi).run P w = .ok (.value v) w := by (intro w hSw; (try dsimp only at hSw); go_simp; (try with_reducible rfl))) (hS : S w := by assumption) : wpAnyH P md ops Q S (fuel + 1) listed a w := by
  subst hd
  exact wpAnyH_take hi hs hf hr hQ (Or.inl ⟨hw, hy⟩) hS h
theorem sk (i : Nat) (d : Option Tmp) {oi : Oper} {fuel : Nat} {listed : Array Bool} {a : Act} {w : World}
    (h : wpAnyH P md ops Q S fuel (listed.setIfInBounds i true) (a.put d undef) w) (hi : ops[i]? = some oi := by rfl) (hd : oi.dst = d := by rfl)
    (hs : Region.noSelect ops = true := by kernel_rfl) (hf : Region.free md ops listed i = true := by kernel_rfl) (hr : (Region.ready md ops listed).contains i = true := by kernel_rfl)
    (hQ : ∀ c a w, Q (.panic c) (a.put d undef) w → Q (.panic c) a w := by exact fun _ _ _ h => h) (hw : Region.wanted oi (yielded ops a.tmps) = false := by kernel_rfl) (hS : S w := by assumption) : wpAnyH P md ops Q S (fuel + 1) listed a w := by
  subst hd
  exact wpAnyH_take hi hs hf hr hQ (Or.inr ⟨hw, rfl⟩) hS h
theorem p0 {α : Type} {l : List α} {i : Nat} {x : α} : l.toArray.setIfInBounds i x = (l.set i x).toArray := List.setIfInBounds_toArray _ _ _
theorem p1 {α : Type} {x b : α} {l : List α} : (x :: l).set 0 b = b :: l := List.set_cons_zero
theorem p2 {α : Type} {x b : α} {l : List α} {n : Nat} : (x :: l).set (n + 1) b = x :: l.set n b := List.set_cons_succ
/-- Behind an operation that was carried out S is shown anew, once. -/
theorem shown {T : World → Prop} {K : Act → World → Prop} {W : Act → World → Prop} (hk : Shut (∀ a w, T w → (T w → W a w) → K a w)) (a : Act) (w : World) (hS : T w) (h : T w → W a w) : K a w := hk.out a w hS h
/-! What an operation of a region does to the parts of one's own memory. -/
theorem rg_alloc {E w : World} {L : List SA} {a : Act} {o : Oper} {Kc : Act → World → Prop} {el : TypeId}
    (hw : Region.wanted o (yielded ops a.tmps) = true) {d : Option Tmp} (hd : o.dst = d) (ho : o.op = .alloc el) (h : sat E w L) {vs : List Value}
    (hr : ∀ w : World, (Instr.alloc el true (.tuple #[])).run P w = .ok (.pointer (some ⟨w.heap.size, 0, none⟩)) (w.alloc (.cells vs.toArray el)))
    (k : ∀ g w', sat E w' (pt g (.cells vs.toArray el (0, 0)) :: L) → Kc (a.put d (.pointer (some ⟨g, 0, none⟩))) w') :
    if Region.wanted o (yielded ops a.tmps) = true then Oper.wp P o a w Kc Q else Kc (a.put o.dst undef) w := by
  subst hd
  rw [if_pos hw]
  unfold Oper.wp execOp
  simp only [ho, Sem.run_bind, hr, Result.andThen_ok, Sem.run_pure]
  exact k w.heap.size (w.alloc (.cells vs.toArray el)) (h.alloc _)
theorem rg_box {E w : World} {L : List SA} {a : Act} {o : Oper} {Kc : Act → World → Prop} {el : TypeId} {x : Operand}
    (hw : Region.wanted o (yielded ops a.tmps) = true) {d : Option Tmp} (hd : o.dst = d) (ho : o.op = .box el x) (h : sat E w L) {v : Value} {vs : List Value} (hx : look a x = some v) (_hv : valCells v = some vs)
    (hr : ∀ w : World, (Instr.box el v).run P w = .ok (.pointer (some ⟨w.heap.size, 0, none⟩)) (w.alloc (.cells vs.toArray el)))
    (k : ∀ g w', sat E w' (pt g (.cells vs.toArray el (0, 0)) :: L) → Kc (a.put d (.pointer (some ⟨g, 0, none⟩))) w') :
    if Region.wanted o (yielded ops a.tmps) = true then Oper.wp P o a w Kc Q else Kc (a.put o.dst undef) w := by
  subst hd
  rw [if_pos hw]
  unfold Oper.wp execOp
  simp only [ho, look_eval hx, Sem.run_bind, hr, Result.andThen_ok, Sem.run_pure]
  exact k w.heap.size (w.alloc (.cells vs.toArray el)) (h.alloc _)
theorem rg_store (i : Nat) {E w : World} {L : List SA} {a : Act} {o : Oper} {Kc : Act → World → Prop} {ty : TypeId} {p x : Operand}
    (hw : Region.wanted o (yielded ops a.tmps) = true) {d : Option Tmp} (hd : o.dst = d) (ho : o.op = .store ty p x) (h : sat E w L) {b t off : Nat} {l : List Value} {vs : List Value} {v : Value}
    (hp : look a p = some (.pointer (some ⟨b, off, none⟩))) (hx : look a x = some v) (e : L[i]? = some (pt b (.cells l.toArray t (0, 0)))) (hv : valCells v = some vs)
    (hs : (P.info? ty).map (·.size) = some vs.length) (hfit : off + vs.length ≤ l.length) (h1 : ∀ u ∈ vs, u.oneCell' = true)
    (k : ∀ w', sat E w' (L.set i (pt b (.cells (putL l off vs).toArray t (0, 0)))) → Kc (a.put d undef) w') :
    if Region.wanted o (yielded ops a.tmps) = true then Oper.wp P o a w Kc Q else Kc (a.put o.dst undef) w := by
  replace hp := look_eval hp
  replace hx := look_eval hx
  replace hv := valCells_cells hv
  obtain ⟨w', hr, hsat, _⟩ := run_store_at (P := P) (ty := ty) i h e hv hs hfit h1
  subst hd
  rw [if_pos hw]
  unfold Oper.wp execOp
  simp only [ho, hp, hx, Instr.storeAt, Instr.sureAddr, Sem.run_bind, Sem.run_pure, Result.andThen_ok, hr]
  exact k w' hsat
end
end Go.SepYtdhcomklmckhoaa
