/- What a yard's moves keep of the conditions on which the contracts rest: plain lemmas on the model. -/
import Derived.Test.YtlnfbfnccefcnaaGreatYardC
namespace Go.Proofs.YtlnfbfnccefcnaaGreat
set_option linter.unusedSimpArgs false
set_option linter.unusedVariables false
structure YardM.okn (n : Nat) (y : YardM) : Prop where
  conf : y.conf.ok
  tl : (y.tasks.length : Int) = y.conf.th
  ml : (y.mine.length : Int) = y.conf.th
  dl : y.deeds.length ≤ n
  m0 : 0 ≤ y.moves
  m1 : y.moves ≤ n
  n0 : 0 ≤ y.now
  n1 : y.now ≤ MaxTime
  wf : y.mem.wf
  log : y.mem.log.length ≤ n
  cells : (y.mem.cells.length : Int) = y.conf.cells
  task : ∀ (i : Nat) t, y.tasks[i]? = some (some t) → t.okn y.conf i n
  mine : ∀ (i : Nat) t, y.tasks[i]? = some (some t) → 0 ≤ getI y.mine i ∧ getI y.mine i < y.deeds.length
theorem YardM.okn.ok {n : Nat} {y : YardM} (h : y.okn n) (hn : n ≤ 100000) : y.ok :=
  ⟨h.conf, h.tl, h.ml, by have := h.dl; omega, h.m0, by have := h.m1; omega, h.n0, h.n1, by have := h.log; omega, h.cells, fun i t ht => (h.task i t ht).mono (by omega), h.mine⟩
theorem YardM.okn.mono {n k : Nat} {y : YardM} (h : y.okn n) (hn : n ≤ k) : y.okn k :=
  ⟨h.conf, h.tl, h.ml, by have := h.dl; omega, h.m0, by have := h.m1; omega, h.n0, h.n1, h.wf, by have := h.log; omega, h.cells, fun i t ht => (h.task i t ht).mono (by omega), h.mine⟩
theorem YardM.new_okn {c : ConfM} (hc : c.ok) : (YardM.new c).okn 0 := by
  have ho := YardM.new_ok hc
  exact ⟨hc, ho.tl, ho.ml, by simp [YardM.new], Int.le_refl _, Int.le_refl _, Int.le_refl _, ho.n1, MemM.new_wf _, by simp [YardM.new, MemM.new], ho.cells, fun i t h => by simp [YardM.new, List.getElem?_replicate] at h, fun i t h => by simp [YardM.new, List.getElem?_replicate] at h⟩
theorem YardM.pass_okn {n : Nat} {y : YardM} (h : y.okn n) (k : Int) : (y.pass k).okn n := by
  unfold YardM.pass
  split
  · rename_i hk
    have h0 := h.n0
    have h1 : y.now ≤ 1099511627776 := h.n1
    refine ⟨h.conf, h.tl, h.ml, h.dl, h.m0, h.m1, ?_, ?_, h.wf, h.log, h.cells, h.task, h.mine⟩
    · show 0 ≤ y.now + min k (1099511627776 - y.now); omega
    · show y.now + min k (1099511627776 - y.now) ≤ 1099511627776; omega
  · exact h
theorem getI_set {l : List Int} {i : Nat} (hi : i < l.length) (x : Int) (j : Nat) : getI (l.set i x) j = if j = i then x else getI l j := by
  unfold getI
  rw [Int.toNat_natCast, List.getD_eq_getElem?_getD, List.getD_eq_getElem?_getD, List.getElem?_set]
  by_cases h : i = j
  · subst h; simp [hi]
  · rw [if_neg h, if_neg (fun q => h q.symm)]
theorem YardM.call_okn {n : Nat} {y : YardM} (h : y.okn n) (who : Int) {k : CallM} (hk : k.wf) : (y.call who k).1.okn (n + 1) := by
  unfold YardM.call
  split
  · exact h.mono (by omega)
  · split
    · exact h.mono (by omega)
    · rename_i hbad hb
      have ht : y.there who = true := by cases q : y.there who <;> simp_all
      have hbd : 0 ≤ who ∧ who < y.conf.th := by
        unfold YardM.there at ht
        rw [Bool.and_eq_true, decide_eq_true_eq, decide_eq_true_eq] at ht
        exact ht
      have h1 := h.tl
      have h2 := h.ml
      have h3 := h.dl
      have h4 := h.m0
      have h5 := h.m1
      refine ⟨h.conf, by simpa using h1, by simpa using h2, by simp; omega, by show 0 ≤ y.moves + 1; omega, by show y.moves + 1 ≤ _; omega, h.n0, h.n1, h.wf, by have := h.log; show y.mem.log.length ≤ _; omega, h.cells, fun i t hi => ?_, fun i t hi => ?_⟩
      · rw [List.getElem?_set] at hi
        split at hi
        · rename_i e
          split at hi
          · simp only [Option.some.injEq] at hi
            subst hi
            have e' : (i : Int) = who := by omega
            rw [e']
            exact (TaskM.new_okn h.conf hbd.1 hbd.2 hk).mono (by omega)
          · cases hi
        · exact (h.task i t hi).mono (by omega)
      · show 0 ≤ getI (y.mine.set who.toNat (y.deeds.length : Int)) i ∧ getI (y.mine.set who.toNat (y.deeds.length : Int)) i < ((y.deeds ++ [_]).length : Int)
        rw [getI_set (by omega), List.length_append]
        rw [List.getElem?_set] at hi
        split
        · simp; omega
        · rename_i e
          rw [if_neg (fun q => e q.symm)] at hi
          have := h.mine i t hi
          simp
          omega
theorem YardM.step_okn {n : Nat} {y : YardM} (h : y.okn n) (hn : n < 100000) (who : Int) : (y.step who).1.okn (n + 1) := by
  unfold YardM.step
  split
  · exact h.mono (by omega)
  · rename_i hb
    split
    · exact h.mono (by omega)
    · rename_i t hk
      have hbusy : y.busy who = true := by simpa using hb
      have ht : y.there who = true := by unfold YardM.busy at hbusy; rw [Bool.and_eq_true] at hbusy; exact hbusy.1
      have hbd : 0 ≤ who ∧ who < y.conf.th := by
        unfold YardM.there at ht
        rw [Bool.and_eq_true, decide_eq_true_eq, decide_eq_true_eq] at ht
        exact ht
      have h1 := h.tl
      have hlt : who.toNat < y.tasks.length := by omega
      have hat : y.tasks[who.toNat]? = some (some t) := by
        have q : y.task who = some t := hk
        unfold YardM.task at q
        rw [List.getElem?_eq_getElem hlt] at q
        rw [List.getElem?_eq_getElem hlt]
        exact congrArg some q
      have hto := h.task who.toNat t hat
      have hst := TaskM.step_okn (m := y.mem) (now := y.now) hto (by omega) (by omega) h.wf h.n0
      obtain ⟨s1, s2, s3⟩ := hst
      have g1 := s3.len
      have g2 := s3.wf h.wf
      have g3 := s3.log
      have h2 := h.ml
      have h3 := h.dl
      have h4 := h.m0
      have h5 := h.m1
      have h6 := h.log
      have h7 := h.cells
      dsimp only
      refine YardM.pass_okn ?_ 1
      split
      · refine ⟨h.conf, by simpa using h1, h2, by simp only [List.length_modify]; omega, by show 0 ≤ y.moves + 1; omega, by show y.moves + 1 ≤ _; omega, h.n0, h.n1, g2, by show (t.step y.mem y.now).2.log.length ≤ _; omega, by show ((t.step y.mem y.now).2.cells.length : Int) = _; rw [g1]; exact h7, fun i u hi => ?_, fun i u hi => ?_⟩
        · rw [List.set_set, List.getElem?_set] at hi
          split at hi
          · simp at hi
          · exact (h.task i u hi).mono (by omega)
        · rw [List.set_set, List.getElem?_set] at hi
          split at hi
          · simp at hi
          · have := h.mine i u hi
            simpa only [List.length_modify] using this
      · refine ⟨h.conf, by simpa using h1, h2, by show y.deeds.length ≤ _; omega, by show 0 ≤ y.moves + 1; omega, by show y.moves + 1 ≤ _; omega, h.n0, h.n1, g2, by show (t.step y.mem y.now).2.log.length ≤ _; omega, by show ((t.step y.mem y.now).2.cells.length : Int) = _; rw [g1]; exact h7, fun i u hi => ?_, fun i u hi => ?_⟩
        · rw [List.getElem?_set] at hi
          split at hi
          · rename_i e
            simp only [Option.some.injEq] at hi
            subst hi
            rw [← e]
            have q := s1
            rw [Int.natCast_add]
            exact q
          · exact (h.task i u hi).mono (by omega)
        · rw [List.getElem?_set] at hi
          split at hi
          · rename_i e
            have := h.mine who.toNat t hat
            rw [← e]
            exact this
          · exact h.mine i u hi
end Go.Proofs.YtlnfbfnccefcnaaGreat
