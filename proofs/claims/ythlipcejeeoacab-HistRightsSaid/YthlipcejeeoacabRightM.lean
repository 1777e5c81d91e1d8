/- Whether calls may have been done so: plain Lean, no program. -/
import Derived.Test.YthlipcejeeoacabModel
namespace Go.Proofs.Ythlipcejeeoacab
set_option linter.unusedSimpArgs false
set_option linter.unusedVariables false
def overB (a b : DeedM) : Bool := decide (a.stop ≥ 0) && decide (a.stop < b.start)
def lastOf (pre : List DeedM) (who : Int) : Option DeedM := pre.foldl (fun o d => if d.who = who then some d else o) none
def lastFrom (pre : List DeedM) : Int := pre.foldl (fun _ d => d.start) (-1)
def inT (pre : List DeedM) (t : Int) : Bool := pre.any fun o => o.start == t || o.stop == t
theorem lastOf_snoc (pre : List DeedM) (d : DeedM) (who : Int) : lastOf (pre ++ [d]) who = if d.who = who then some d else lastOf pre who := by
  unfold lastOf; rw [List.foldl_append]; rfl
theorem lastFrom_snoc (pre : List DeedM) (d : DeedM) : lastFrom (pre ++ [d]) = d.start := by
  unfold lastFrom; rw [List.foldl_append]; rfl
theorem inT_snoc (pre : List DeedM) (d : DeedM) (t : Int) : inT (pre ++ [d]) t = (inT pre t || (d.start == t || d.stop == t)) := by
  simp [inT, List.any_append]
def okHead (pre : List DeedM) (d : DeedM) : Bool := decide (lastFrom pre < d.start) && (decide (d.stop < 0) || decide (d.start < d.stop)) && d.call.right
def okOwn (pre : List DeedM) (d : DeedM) : Bool := match lastOf pre d.who with | none => true | some o => overB o d
def okT (pre : List DeedM) (t : Int) : Bool := decide (t < 0) || !inT pre t
def okD (pre : List DeedM) (d : DeedM) : Bool := okHead pre d && okOwn pre d && okT pre d.start && (okT pre d.stop && (decide (d.stop < 0) || d.start != d.stop))
/-- .. as the program looks. -/
def rightM : List DeedM → List DeedM → Bool
  | _, [] => true
  | pre, d :: l => okD pre d && rightM (pre ++ [d]) l
def lokHead (pre : List DeedM) (d : DeedM) : Bool := decide (0 ≤ d.start) && (decide (pre = []) || decide (lastFrom pre < d.start)) && (decide (d.stop < 0) || decide (d.start < d.stop)) && d.call.right
def lokO (d o : DeedM) : Bool := !(d.start == o.stop || (decide (0 ≤ d.stop) && (d.stop == o.stop || d.stop == o.start)))
def lokD (pre : List DeedM) (d : DeedM) : Bool := lokHead pre d && pre.all (lokO d) && okOwn pre d
/-- .. as the statement looks. -/
def lrightM : List DeedM → List DeedM → Bool
  | _, [] => true
  | pre, d :: l => lokD pre d && lrightM (pre ++ [d]) l
structure Inv (pre : List DeedM) : Prop where
  starts : ∀ o ∈ pre, 0 ≤ o.start ∧ o.start ≤ lastFrom pre
  last : -1 ≤ lastFrom pre
  some : pre ≠ [] → 0 ≤ lastFrom pre
theorem inT_iff (pre : List DeedM) (t : Int) : inT pre t = true ↔ ∃ o ∈ pre, o.start = t ∨ o.stop = t := by
  simp [inT, List.any_eq_true]
theorem ok_eq {pre : List DeedM} (h : Inv pre) (d : DeedM) : okD pre d = lokD pre d := by
  have hh : okHead pre d = lokHead pre d := by
    unfold okHead lokHead
    rw [Bool.eq_iff_iff]
    simp only [Bool.and_eq_true, decide_eq_true_eq, Bool.or_eq_true]
    constructor
    · rintro ⟨⟨h1, h2⟩, h3⟩
      exact ⟨⟨⟨by have := h.last; omega, .inr h1⟩, h2⟩, h3⟩
    · rintro ⟨⟨⟨h1, h2⟩, h3⟩, h4⟩
      refine ⟨⟨?_, h3⟩, h4⟩
      rcases h2 with h2 | h2
      · subst h2; show (-1 : Int) < d.start; omega
      · exact h2
  unfold okD lokD
  rw [hh]
  cases hl : lokHead pre d with
  | false => simp
  | true =>
    rw [← hh] at hl
    simp only [okHead, Bool.and_eq_true, decide_eq_true_eq, Bool.or_eq_true] at hl
    obtain ⟨⟨h1, h2⟩, h3⟩ := hl
    have h0 : 0 ≤ d.start := by have := h.last; omega
    rw [Bool.true_and, Bool.true_and]
    have key : (okT pre d.start && (okT pre d.stop && (decide (d.stop < 0) || d.start != d.stop))) = pre.all (lokO d) := by
      rw [Bool.eq_iff_iff]
      simp only [okT, lokO, Bool.and_eq_true, Bool.or_eq_true, decide_eq_true_eq, List.all_eq_true, Bool.not_eq_true', Bool.or_eq_false_iff, Bool.and_eq_false_iff, beq_eq_false_iff_ne, bne_iff_ne, decide_eq_false_iff_not]
      have e1 : ∀ t, inT pre t = false ↔ ∀ o ∈ pre, o.start ≠ t ∧ o.stop ≠ t := fun t => by
        rw [← Bool.not_eq_true, inT_iff]
        constructor
        · intro hh o ho; exact ⟨fun q => hh ⟨o, ho, .inl q⟩, fun q => hh ⟨o, ho, .inr q⟩⟩
        · rintro hh ⟨o, ho, q | q⟩
          · exact (hh o ho).1 q
          · exact (hh o ho).2 q
      rw [e1, e1]
      constructor
      · rintro ⟨a, b, c⟩ o ho
        refine ⟨?_, ?_⟩
        · rcases a with a | a
          · omega
          · exact fun q => (a o ho).2 q.symm
        · rcases b with b | b
          · left; omega
          · right; exact ⟨fun q => (b o ho).2 q.symm, fun q => (b o ho).1 q.symm⟩
      · intro hh
        refine ⟨.inr fun o ho => ⟨?_, fun q => (hh o ho).1 q.symm⟩, ?_, ?_⟩
        · have := (h.starts o ho).2; omega
        · by_cases hs : d.stop < 0
          · exact .inl hs
          · right
            intro o ho
            rcases (hh o ho).2 with q | q
            · omega
            · exact ⟨fun r => q.2 r.symm, fun r => q.1 r.symm⟩
        · by_cases hs : d.stop < 0
          · exact .inl hs
          · right; omega
    rw [← key]
    cases okOwn pre d <;> simp
theorem Inv.step {pre : List DeedM} (h : Inv pre) {d : DeedM} (hd : okD pre d = true) : Inv (pre ++ [d]) := by
  simp only [okD, okHead, Bool.and_eq_true, decide_eq_true_eq] at hd
  have h1 := hd.1.1.1.1.1
  have h0 := h.last
  refine ⟨fun o ho => ?_, by rw [lastFrom_snoc]; omega, fun _ => by rw [lastFrom_snoc]; omega⟩
  rw [lastFrom_snoc]
  rcases List.mem_append.1 ho with ho | ho
  · have := h.starts o ho; omega
  · simp at ho; subst ho; omega
theorem right_eq : ∀ (l pre : List DeedM), Inv pre → rightM pre l = lrightM pre l
  | [], _, _ => rfl
  | d :: l, pre, h => by
    rw [rightM, lrightM, ok_eq h d]
    cases hd : lokD pre d with
    | false => rfl
    | true => rw [right_eq l (pre ++ [d]) (h.step (by rw [ok_eq h d]; exact hd))]
theorem Inv.nil : Inv [] := ⟨(fun o ho => by cases ho), by decide, (fun h => absurd rfl h)⟩
theorem rightM_append : ∀ (a b pre : List DeedM), rightM pre (a ++ b) = (rightM pre a && rightM (pre ++ a) b)
  | [], b, pre => by simp [rightM]
  | d :: a, b, pre => by
    rw [List.cons_append, rightM, rightM, rightM_append a b (pre ++ [d]), Bool.and_assoc]
    simp
end Go.Proofs.Ythlipcejeeoacab
