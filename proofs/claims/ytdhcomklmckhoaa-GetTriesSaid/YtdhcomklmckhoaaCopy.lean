/- 'make' and 'copy' of slices whose elements are one cell each: blocks of one's own, in a walk and in a drawn region. Plain lemmas over any program; no condition. -/
import Derived.Test.YtdhcomklmckhoaaReg
import Derived.Laws.MakeOwn
import Derived.Laws.OwnMore
import Derived.Laws.CopyOwn
namespace Go.SepYtdhcomklmckhoaa
open Go Go.RowKit
set_option linter.unusedVariables false
section
variable {E w : World} {L : List SA} {P : Program}
theorem at_copy {ops : Array Oper} {rest : List Oper} {a : Act} {Q : Exit → Act → World → Prop} {dst : Option Tmp} {d s : Operand} {dT sT : TypeId} {oty : TypeId} {pos : String} {af : Array Edge}
    (h : wpList P ops Q (⟨dst, .call { callee := .builtin .copy, args := #[d, s], argTypes := #[dT, sT] }, oty, pos, af, none⟩ :: rest) a w) :
    wpList P ops Q (⟨dst, .call { callee := .builtin .copy, args := #[d, s], argTypes := #[dT, sT] }, oty, pos, af, none⟩ :: rest) a w := h
/-- A whole row is laid over a block of one's own of as many cells. -/
theorem st_copy (i : Nat) {ops : Array Oper} {rest : List Oper} {a : Act} {Q : Exit → Act → World → Prop} {dst : Option Tmp} {d s : Operand} {dT sT : TypeId} {oty : TypeId} {pos : String} {af : Array Edge}
    (elem : TypeId) (h : sat E w L) {g t dLen dCap sLen sCap : Nat} {l : List Value} {ad : Addr} (cs : List Value)
    (hd : look a d = some (.slice (some ⟨g, 0, none⟩) dLen dCap)) (hs : look a s = some (.slice (some ad) sLen sCap)) (e : L[i]? = some (pt g (.cells l.toArray t (0, 0))))
    (hu : P.underlying dT = some (.slice elem)) (hsz : (P.info? elem).map (·.size) = some 1) (hn : cs.length = Nat.min sLen dLen) (hl : l.length = cs.length)
    (hsrc : ∀ j v, cs[j]? = some v → w.cell? (ad.add j) = some v) (h1 : ∀ v ∈ cs, v.oneCell' = true)
    (k : ∀ w', sat E w' (L.set i (pt g (.cells cs.toArray t (0, 0)))) → wpList P ops Q rest (a.put dst (goInt cs.length)) w') :
    wpList P ops Q (⟨dst, .call { callee := .builtin .copy, args := #[d, s], argTypes := #[dT, sT] }, oty, pos, af, none⟩ :: rest) a w := by
  have hg := (h.pick i e).at
  refine wpList_copy_own rfl d s dT sT rfl elem hu hsz g 0 dLen dCap ad sLen sCap (look_eval hd) (look_eval hs) l.toArray t hg cs hn hsrc (by simp [hl]) h1 (k _ ?_)
  have q : (l.toArray.toList.take 0 ++ (cs ++ l.toArray.toList.drop (0 + cs.length))) = cs := by simp [List.drop_eq_nil_of_le (Nat.le_of_eq hl)]
  rw [q]
  exact h.at_part i e (fun M s => s.turn ⟨rfl, rfl, rfl, by simp, fun k _ hk => setRow_other w g k _ (fun q => hk (by simp [q]))⟩ (setRow_heap w g _ _ t _ hg))
/-- 'make', as a block of one's own, laid in front. -/
theorem st_makeP {ops : Array Oper} {rest : List Oper} {a : Act} {Q : Exit → Act → World → Prop} {dst : Option Tmp} {s x : Operand} {t : TypeId} {oty : TypeId} {pos : String} {af : Array Edge}
    (e bytes : Nat) (zv : Value) (ht : P.underlying t = some (.slice e)) (hi : ∃ q z, P.info? e = some q ∧ q.zero = some z ∧ q.size = 1 ∧ q.bytes = bytes ∧ z.cells = #[zv])
    (h : sat E w L) {kl kc : IntKind} {l : Nat} {l1 l2 : Int} (hs : look a s = some (.int kl l1)) (hx : look a x = some (.int kc l2)) (h1 : l1 = l) (h2 : l2 = l) (hcells : l ≤ 16777216) (hb : bytes * l ≤ 281474976710656)
    (k : ∀ g w', sat E w' (pt g (.cells (List.replicate l zv).toArray e (0, 0)) :: L) → wpList P ops Q rest (a.put dst (.slice (some ⟨g, 0, none⟩) l l)) w') :
    wpList P ops Q (⟨dst, .makeSlice t s x, oty, pos, af, none⟩ :: rest) a w := by
  obtain ⟨q, z, g1, g2, g3, g4, g5⟩ := hi
  subst h1 h2
  subst g4
  have hb' : (q.bytes : Int) * (l : Int) ≤ 281474976710656 := by
    have h : ((q.bytes * l : Nat) : Int) ≤ 281474976710656 := by omega
    rwa [Int.natCast_mul] at h
  have hr := run_makeSlice (P := P) w t e q z ht g1 g2 kl kc (l : Int) (l : Int) (by omega) (by omega) (by rw [g3]; omega) hb' (by omega)
  simp only [Int.toNat_natCast, g3, g5, Nat.mul_one] at hr
  rw [show madeCells #[zv] l = (List.replicate l zv).toArray by rw [← toList_madeCells_one]] at hr
  refine wpList_plain rfl fun K hK => ?_
  unfold Oper.wp execOp
  simp only [look_eval hs, look_eval hx, Sem.run_bind, hr, Result.andThen_ok, Sem.run_pure]
  exact hK _ _ (k w.heap.size _ (h.alloc _))
theorem rg_makeP {ops : Array Oper} {a : Act} {Q : Exit → Act → World → Prop} {o : Oper} {Kc : Act → World → Prop} {s x : Operand} {t : TypeId}
    (e bytes : Nat) (zv : Value) (ht : P.underlying t = some (.slice e)) (hi : ∃ q z, P.info? e = some q ∧ q.zero = some z ∧ q.size = 1 ∧ q.bytes = bytes ∧ z.cells = #[zv])
    (hw : Region.wanted o (yielded ops a.tmps) = true) {d : Option Tmp} (hd : o.dst = d) (ho : o.op = .makeSlice t s x)
    (h : sat E w L) {kl kc : IntKind} {l : Nat} {l1 l2 : Int} (hs : look a s = some (.int kl l1)) (hx : look a x = some (.int kc l2)) (h1 : l1 = l) (h2 : l2 = l) (hcells : l ≤ 16777216) (hb : bytes * l ≤ 281474976710656)
    (k : ∀ g w', sat E w' (pt g (.cells (List.replicate l zv).toArray e (0, 0)) :: L) → Kc (a.put d (.slice (some ⟨g, 0, none⟩) l l)) w') :
    if Region.wanted o (yielded ops a.tmps) = true then Oper.wp P o a w Kc Q else Kc (a.put o.dst undef) w := by
  obtain ⟨q, z, g1, g2, g3, g4, g5⟩ := hi
  subst h1 h2 hd
  subst g4
  have hb' : (q.bytes : Int) * (l : Int) ≤ 281474976710656 := by
    have h : ((q.bytes * l : Nat) : Int) ≤ 281474976710656 := by omega
    rwa [Int.natCast_mul] at h
  have hr := run_makeSlice (P := P) w t e q z ht g1 g2 kl kc (l : Int) (l : Int) (by omega) (by omega) (by rw [g3]; omega) hb' (by omega)
  simp only [Int.toNat_natCast, g3, g5, Nat.mul_one] at hr
  rw [show madeCells #[zv] l = (List.replicate l zv).toArray by rw [← toList_madeCells_one]] at hr
  rw [if_pos hw]
  unfold Oper.wp execOp
  simp only [ho, look_eval hs, look_eval hx, Sem.run_bind, hr, Result.andThen_ok, Sem.run_pure]
  exact k w.heap.size _ (h.alloc _)
end
end Go.SepYtdhcomklmckhoaa
