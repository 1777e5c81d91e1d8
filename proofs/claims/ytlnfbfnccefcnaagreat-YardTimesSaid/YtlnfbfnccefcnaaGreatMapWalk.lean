/- Maps in a walk: looked into, written, made, among the parts of one's own memory. Plain lemmas over any program; no condition. -/
import Derived.Test.YtlnfbfnccefcnaaGreatMapKit
import Derived.Test.YtlnfbfnccefcnaaGreatRowKit
import Derived.Test.YtlnfbfnccefcnaaGreatReg
namespace Go.SepYtlnfbfnccefcnaaGreat
open Go.RowKit Go.Maps Go.WideElems
set_option linter.unusedVariables false
section
variable {E w : World} {L : List SA} {P : Program}
theorem sat.mapI_mono {k e : TypeId} {q : IntKind} {b n m : Nat} {f : Lit → Option Int} (h : sat E w (mapI P k e q b n f :: L)) (hn : n ≤ m) : sat E w (mapI P k e q b m f :: L) :=
  sat.imp (fun g ⟨es, clock, h1, h2, h3, h4⟩ => ⟨es, clock, h1, h2, Nat.le_trans h3 hn, h4⟩) h
theorem at_lookup' {ops : Array Oper} {rest : List Oper} {a : Act} {Q : Exit → Act → World → Prop} {dst : Option Tmp} {m x : Operand} {t : TypeId} {c : Bool} {oty : TypeId} {pos : String} {af : Array Edge}
    (h : wpList P ops Q (⟨dst, .lookup t m x c, oty, pos, af, none⟩ :: rest) a w) : wpList P ops Q (⟨dst, .lookup t m x c, oty, pos, af, none⟩ :: rest) a w := h
theorem at_put' {ops : Array Oper} {rest : List Oper} {a : Act} {Q : Exit → Act → World → Prop} {dst : Option Tmp} {m x v : Operand} {t : TypeId} {oty : TypeId} {pos : String} {af : Array Edge}
    (h : wpList P ops Q (⟨dst, .mapUpdate t m x v, oty, pos, af, none⟩ :: rest) a w) : wpList P ops Q (⟨dst, .mapUpdate t m x v, oty, pos, af, none⟩ :: rest) a w := h
theorem at_makeMap' {ops : Array Oper} {rest : List Oper} {a : Act} {Q : Exit → Act → World → Prop} {dst : Option Tmp} {t : TypeId} {oty : TypeId} {pos : String} {af : Array Edge}
    (h : wpList P ops Q (⟨dst, .makeMap t none, oty, pos, af, none⟩ :: rest) a w) : wpList P ops Q (⟨dst, .makeMap t none, oty, pos, af, none⟩ :: rest) a w := h
/-- 'm[k]', m being part number i. -/
theorem st_look (i : Nat) {ops : Array Oper} {rest : List Oper} {a : Act} {Q : Exit → Act → World → Prop} {dst : Option Tmp} {m x : Operand} {t : TypeId} {oty : TypeId} {pos : String} {af : Array Edge}
    {k e : TypeId} {q : IntKind} {b n : Nat} {f : Lit → Option Int} (h : sat E w L) (hL : L[i]? = some (mapI P k e q b n f)) (K : Keyed P k) (ht : P.underlying t = some (.map k e)) (he : P.underlying e = some (.int q)) (hz : ∀ w : World, (zeroValue e).run P w = .ok (.int q 0) w)
    (hm : look a m = some (.map (some b))) {key : Value} {kl : Lit} (hx : look a x = some key) (hkey : keyOf P k key = some kl)
    (r : wpList P ops Q rest (a.put dst (.int q ((f kl).getD 0))) w) : wpList P ops Q (⟨dst, .lookup t m x false, oty, pos, af, none⟩ :: rest) a w := by
  refine wpList_plain rfl fun K' hK' => ?_
  have hr := (sat.mapI_look (h.pick i hL) K ht he hz hkey).1
  unfold Oper.wp execOp
  simp only [look_eval hm, look_eval hx, Sem.run_bind, Sem.run_pure, Result.andThen_ok, hr]
  exact hK' _ _ r
/-- 'v, ok := m[k]'. -/
theorem st_look_ok (i : Nat) {ops : Array Oper} {rest : List Oper} {a : Act} {Q : Exit → Act → World → Prop} {dst : Option Tmp} {m x : Operand} {t : TypeId} {oty : TypeId} {pos : String} {af : Array Edge}
    {k e : TypeId} {q : IntKind} {b n : Nat} {f : Lit → Option Int} (h : sat E w L) (hL : L[i]? = some (mapI P k e q b n f)) (K : Keyed P k) (ht : P.underlying t = some (.map k e)) (he : P.underlying e = some (.int q)) (hz : ∀ w : World, (zeroValue e).run P w = .ok (.int q 0) w)
    (hm : look a m = some (.map (some b))) {key : Value} {kl : Lit} (hx : look a x = some key) (hkey : keyOf P k key = some kl)
    (r : wpList P ops Q rest (a.put dst (.tuple #[.int q ((f kl).getD 0), .bool (f kl).isSome])) w) : wpList P ops Q (⟨dst, .lookup t m x true, oty, pos, af, none⟩ :: rest) a w := by
  refine wpList_plain rfl fun K' hK' => ?_
  have hr := (sat.mapI_look (h.pick i hL) K ht he hz hkey).2
  unfold Oper.wp execOp
  simp only [look_eval hm, look_eval hx, Sem.run_bind, Sem.run_pure, Result.andThen_ok, hr]
  exact hK' _ _ r
/-- 'm[k] = v'. -/
theorem st_put (i : Nat) {ops : Array Oper} {rest : List Oper} {a : Act} {Q : Exit → Act → World → Prop} {dst : Option Tmp} {m x v : Operand} {t : TypeId} {oty : TypeId} {pos : String} {af : Array Edge}
    {k e : TypeId} {q : IntKind} {b n : Nat} {f : Lit → Option Int} (h : sat E w L) (hL : L[i]? = some (mapI P k e q b n f)) (K : Keyed P k) (ht : P.underlying t = some (.map k e)) (he : P.underlying e = some (.int q)) (hn : n < maxLen)
    (hm : look a m = some (.map (some b))) {key : Value} {kl : Lit} (hx : look a x = some key) (hkey : keyOf P k key = some kl) {c : Int} (hv : look a v = some (.int q c)) (hc : (Lit.int q c).wf = true)
    (r : ∀ w', sat E w' (L.set i (mapI P k e q b (n + 1) (updI f kl c))) → wpList P ops Q rest (a.put dst undef) w') : wpList P ops Q (⟨dst, .mapUpdate t m x v, oty, pos, af, none⟩ :: rest) a w := by
  refine wpList_plain rfl fun K' hK' => ?_
  obtain ⟨w', hr, hs⟩ := sat.mapI_put (h.pick i hL) K ht he hn hkey hc
  unfold Oper.wp execOp
  simp only [look_eval hm, look_eval hx, look_eval hv, Sem.run_bind, Sem.run_pure, Result.andThen_ok, hr]
  exact hK' _ _ (r w' (hs.perm (set_perm i L hL).symm))
/-- .. within a region. -/
theorem rg_put (i : Nat) {ops : Array Oper} {a : Act} {o : Oper} {Kc : Act → World → Prop} {Q : Exit → Act → World → Prop} {m x v : Operand} {t : TypeId}
    {k e : TypeId} {q : IntKind} {b n : Nat} {f : Lit → Option Int} (hw : Region.wanted o (yielded ops a.tmps) = true) {d : Option Tmp} (hd : o.dst = d) (ho : o.op = .mapUpdate t m x v) (h : sat E w L) (hL : L[i]? = some (mapI P k e q b n f)) (K : Keyed P k) (ht : P.underlying t = some (.map k e)) (he : P.underlying e = some (.int q)) (hn : n < maxLen)
    (hm : look a m = some (.map (some b))) {key : Value} {kl : Lit} (hx : look a x = some key) (hkey : keyOf P k key = some kl) {c : Int} (hv : look a v = some (.int q c)) (hc : (Lit.int q c).wf = true)
    (r : ∀ w', sat E w' (L.set i (mapI P k e q b (n + 1) (updI f kl c))) → Kc (a.put d undef) w') : if Region.wanted o (yielded ops a.tmps) = true then Oper.wp P o a w Kc Q else Kc (a.put o.dst undef) w := by
  subst hd
  rw [if_pos hw]
  obtain ⟨w', hr, hs⟩ := sat.mapI_put (h.pick i hL) K ht he hn hkey hc
  unfold Oper.wp execOp
  simp only [ho, look_eval hm, look_eval hx, look_eval hv, Sem.run_bind, Sem.run_pure, Result.andThen_ok, hr]
  exact r w' (hs.perm (set_perm i L hL).symm)
/-- 'map[K]V{}': a part in front. -/
theorem st_makeMap {ops : Array Oper} {rest : List Oper} {a : Act} {Q : Exit → Act → World → Prop} {dst : Option Tmp} {t : TypeId} {oty : TypeId} {pos : String} {af : Array Edge}
    (k e : TypeId) (q : IntKind) (h : sat E w L)
    (r : ∀ g w', sat E w' (mapI P k e q g 0 (fun _ => none) :: L) → wpList P ops Q rest (a.put dst (.map (some g))) w') : wpList P ops Q (⟨dst, .makeMap t none, oty, pos, af, none⟩ :: rest) a w := by
  refine wpList_plain rfl fun K' hK' => ?_
  have hr := run_makeMap (P := P) t w
  unfold Oper.wp execOp
  simp only [Sem.run_bind, Sem.run_pure, Result.andThen_ok, Option.map_none, hr]
  exact hK' _ _ (r _ _ h.mapI_new)
/-- A new block of zeros, laid in front. -/
theorem st_allocf {ops : Array Oper} {rest : List Oper} {a : Act} {Q : Exit → Act → World → Prop} {dst : Option Tmp} {el : TypeId} {oty : TypeId} {pos : String} {af : Array Edge}
    (h : sat E w L) {vs : List Value}
    (hr : ∀ w : World, (Instr.alloc el true (.tuple #[])).run P w = .ok (.pointer (some ⟨w.heap.size, 0, none⟩)) (w.alloc (.cells vs.toArray el)))
    (k : ∀ g w', sat E w' (pt g (.cells vs.toArray el (0, 0)) :: L) → wpList P ops Q rest (a.put dst (.pointer (some ⟨g, 0, none⟩))) w') : wpList P ops Q (⟨dst, .alloc el, oty, pos, af, none⟩ :: rest) a w := by
  refine wpList_plain rfl fun K hK => ?_
  unfold Oper.wp execOp
  simp only [Sem.run_bind, hr, Result.andThen_ok, Sem.run_pure]
  exact hK _ _ (k w.heap.size (w.alloc (.cells vs.toArray el)) (h.alloc _))
end
end Go.SepYtlnfbfnccefcnaaGreat
