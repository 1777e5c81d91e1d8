/- How often each value was put in, less how often it was had: plain Lean, no program. -/
import Derived.Test.YthlipcejeeoacaaModel
namespace Go.Proofs.Ythlipcejeeoacaa
set_option linter.unusedSimpArgs false
set_option linter.unusedVariables false
def vOf (d : DeedM) : Int := if d.call.kind = 0 then d.call.value else d.reply.value
def netD (v : Int) (d : DeedM) : Int := if d.reply.ok = true ∧ vOf d = v then (if d.call.kind = 0 then 1 else -1) else 0
def net (v : Int) (l : List DeedM) : Int := l.foldr (fun d n => n + netD v d) 0
def touchD (v : Int) (d : DeedM) : Bool := d.reply.ok && vOf d == v
def touched (v : Int) (l : List DeedM) : Bool := l.any (touchD v)
theorem net_append (v : Int) : ∀ (a b : List DeedM), net v (a ++ b) = net v a + net v b
  | [], b => by simp [net]
  | d :: a, b => by
    have := net_append v a b
    unfold net at this ⊢
    rw [List.cons_append, List.foldr_cons, List.foldr_cons, this]
    omega
theorem net_snoc (v : Int) (l : List DeedM) (d : DeedM) : net v (l ++ [d]) = net v l + netD v d := by
  rw [net_append]; simp [net]
theorem netD_bd (v : Int) (d : DeedM) : -1 ≤ netD v d ∧ netD v d ≤ 1 := by
  unfold netD; split <;> (try split) <;> omega
theorem net_bd (v : Int) : ∀ l : List DeedM, -(l.length : Int) ≤ net v l ∧ net v l ≤ l.length
  | [] => by simp [net]
  | d :: l => by
    have := net_bd v l
    have := netD_bd v d
    unfold net at *
    rw [List.foldr_cons, List.length_cons]
    omega
theorem netD_zero {v : Int} {d : DeedM} (h : touchD v d = false) : netD v d = 0 := by
  unfold netD
  rw [if_neg]
  rintro ⟨h1, h2⟩
  simp [touchD, h1, h2] at h
theorem net_zero {v : Int} : ∀ {l : List DeedM}, touched v l = false → net v l = 0
  | [], _ => rfl
  | d :: l, h => by
    simp only [touched, List.any_cons, Bool.or_eq_false_iff] at h
    have := net_zero (v := v) (l := l) h.2
    unfold net at *
    rw [List.foldr_cons, this, netD_zero h.1]
    rfl
theorem touched_snoc (v : Int) (l : List DeedM) (d : DeedM) : touched v (l ++ [d]) = (touched v l || touchD v d) := by
  simp [touched, List.any_append]
/-- The values that are spoken of, each once, in order. -/
def dist (l : List DeedM) : List Int := l.foldl (fun acc d => if vOf d ∈ acc then acc else acc ++ [vOf d]) []
theorem dist_snoc (l : List DeedM) (d : DeedM) : dist (l ++ [d]) = if vOf d ∈ dist l then dist l else dist l ++ [vOf d] := by
  unfold dist; rw [List.foldl_append]; rfl
theorem dist_mem : ∀ (l : List DeedM) (v : Int), v ∈ dist l ↔ ∃ d ∈ l, vOf d = v := by
  intro l
  have key : ∀ (l : List DeedM) (acc : List Int) (v : Int), v ∈ l.foldl (fun acc d => if vOf d ∈ acc then acc else acc ++ [vOf d]) acc ↔ v ∈ acc ∨ ∃ d ∈ l, vOf d = v := by
    intro l
    induction l with
    | nil => intro acc v; simp
    | cons d l ih =>
      intro acc v
      rw [List.foldl_cons, ih]
      by_cases h : vOf d ∈ acc
      · rw [if_pos h]
        simp only [List.mem_cons, exists_eq_or_imp]
        constructor
        · rintro (h1 | h1)
          · exact .inl h1
          · exact .inr (.inr h1)
        · rintro (h1 | h1 | h1)
          · exact .inl h1
          · subst h1; exact .inl h
          · exact .inr h1
      · rw [if_neg h]
        simp only [List.mem_append, List.mem_cons, List.not_mem_nil, or_false, exists_eq_or_imp]
        constructor
        · rintro ((h1 | h1) | h1)
          · exact .inl h1
          · exact .inr (.inl h1.symm)
          · exact .inr (.inr h1)
        · rintro (h1 | h1 | h1)
          · exact .inl (.inl h1)
          · exact .inl (.inr h1.symm)
          · exact .inr h1
  intro v
  unfold dist
  rw [key]
  simp
theorem dist_nodup : ∀ l : List DeedM, (dist l).Nodup := by
  intro l
  have key : ∀ (l : List DeedM) (acc : List Int), acc.Nodup → (l.foldl (fun acc d => if vOf d ∈ acc then acc else acc ++ [vOf d]) acc).Nodup := by
    intro l
    induction l with
    | nil => intro acc h; exact h
    | cons d l ih =>
      intro acc h
      rw [List.foldl_cons]
      apply ih
      split
      · exact h
      · rename_i hn
        rw [List.nodup_append]
        refine ⟨h, by simp, ?_⟩
        intro a ha b hb e
        simp at hb
        subst hb
        subst e
        exact hn ha
  exact key l [] List.nodup_nil
theorem dist_len : ∀ l : List DeedM, (dist l).length ≤ l.length := by
  intro l
  have key : ∀ (l : List DeedM) (acc : List Int), (l.foldl (fun acc d => if vOf d ∈ acc then acc else acc ++ [vOf d]) acc).length ≤ acc.length + l.length := by
    intro l
    induction l with
    | nil => intro acc; simp
    | cons d l ih =>
      intro acc
      rw [List.foldl_cons]
      refine Nat.le_trans (ih _) ?_
      split
      · simp
      · simp; omega
  have := key l []
  unfold dist
  simpa using this
/-- How many values were put in more often than had, or less. -/
def kinds (L : List DeedM) (seen : List Int) : Nat := (seen.filter fun v => net v L != 0).length
theorem kinds_snoc (L : List DeedM) (seen : List Int) (v : Int) : kinds L (seen ++ [v]) = kinds L seen + if net v L = 0 then 0 else 1 := by
  unfold kinds
  rw [List.filter_append, List.length_append]
  by_cases h : net v L = 0
  · simp [h]
  · simp [h]
end Go.Proofs.Ythlipcejeeoacaa
