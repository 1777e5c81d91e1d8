/- The order in which things stand, in plain Lean: whatever stands in order, and is the same things, is one row. -/
import Derived.Test.YtdhcomklmckhoaaModel
namespace Go.Proofs.Ytdhcomklmckhoaa
theorem eq_of_sorted {α : Type} {R : α → α → Prop} (ha : ∀ a b, R a b → R b a → False) : ∀ {l l' : List α}, l.Perm l' → l.Pairwise R → l'.Pairwise R → l = l'
  | [], l', p, _, _ => by simpa using p.symm.eq_nil.symm
  | a :: l, [], p, _, _ => by simpa using p.eq_nil
  | a :: l, b :: l', p, h, h' => by
    have hab : a = b := by
      rcases List.mem_cons.1 (p.mem_iff.1 (List.mem_cons_self)) with e | e
      · exact e
      · rcases List.mem_cons.1 (p.mem_iff.2 (List.mem_cons_self)) with e' | e'
        · exact e'.symm
        · exact (ha a b ((List.pairwise_cons.1 h).1 b e') ((List.pairwise_cons.1 h').1 a e)).elim
    subst hab
    rw [eq_of_sorted ha p.cons_inv (List.pairwise_cons.1 h).2 (List.pairwise_cons.1 h').2]
/-- The order of stamps, and of places among those. -/
theorem laterB_iff (x : WordM) (a : Int) (y : WordM) (b : Int) : laterB x a y b = decide (y.stamp.lo < x.stamp.lo ∨ (y.stamp.lo = x.stamp.lo ∧ (y.stamp.hi < x.stamp.hi ∨ (y.stamp.hi = x.stamp.hi ∧ b < a)))) := by
  unfold laterB StampM.cmp cmpI
  rw [Bool.eq_iff_iff]
  simp only [Bool.or_eq_true, Bool.and_eq_true, decide_eq_true_eq]
  (repeat' split) <;> omega
theorem aheadB_asymm (words : List Int) (a b : Int) (h : aheadB words a b = true) (h' : aheadB words b a = true) : False := by
  unfold aheadB at h h'
  simp only [laterB_iff] at h h'
  generalize unpack (getI words a) = x at *
  generalize unpack (getI words b) = y at *
  (repeat' split at h) <;> (repeat' split at h') <;> simp only [decide_eq_true_eq] at h h' <;> omega
theorem aheadB_trans (words : List Int) (a b c : Int) (h : aheadB words a b = true) (h' : aheadB words b c = true) : aheadB words a c = true := by
  unfold aheadB at *
  simp only [laterB_iff] at *
  generalize unpack (getI words a) = x at *
  generalize unpack (getI words b) = y at *
  generalize unpack (getI words c) = z at *
  (repeat' split at h) <;> (repeat' split at h') <;> (repeat' split) <;> simp only [decide_eq_true_eq] at * <;> omega
theorem aheadB_total (words : List Int) (a b : Int) (h : a ≠ b) : aheadB words a b = true ∨ aheadB words b a = true := by
  unfold aheadB
  simp only [laterB_iff]
  have hx : (unpack (getI words a)).fin = 0 ∨ (unpack (getI words a)).fin = 1 := by simp only [unpack]; omega
  have hy : (unpack (getI words b)).fin = 0 ∨ (unpack (getI words b)).fin = 1 := by simp only [unpack]; omega
  generalize unpack (getI words a) = x at *
  generalize unpack (getI words b) = y at *
  (repeat' split) <;> simp only [decide_eq_true_eq] <;> omega
theorem insB_perm (words : List Int) (i : Int) : ∀ l, (insB words i l).Perm (i :: l)
  | [] => List.Perm.refl _
  | a :: l => by
    unfold insB
    split
    · exact (List.Perm.cons a (insB_perm words i l)).trans (List.Perm.swap i a l)
    · exact List.Perm.refl _
theorem insB_sorted (words : List Int) (i : Int) : ∀ l, l.Pairwise (fun a b => aheadB words a b = true) → (∀ a ∈ l, a ≠ i) → (insB words i l).Pairwise (fun a b => aheadB words a b = true)
  | [], _, _ => by simp [insB]
  | a :: l, h, hn => by
    obtain ⟨h1, h2⟩ := List.pairwise_cons.1 h
    unfold insB
    split
    · rename_i ha
      refine List.pairwise_cons.2 ⟨fun b hb => ?_, insB_sorted words i l h2 (fun b hb => hn b (List.mem_cons_of_mem _ hb))⟩
      rcases List.mem_cons.1 ((insB_perm words i l).mem_iff.1 hb) with e | e
      · subst e; exact ha
      · exact h1 b e
    · rename_i ha
      have hi : aheadB words i a = true := (aheadB_total words a i (hn a List.mem_cons_self)).resolve_left ha
      refine List.pairwise_cons.2 ⟨fun b hb => ?_, h⟩
      rcases List.mem_cons.1 hb with e | e
      · subst e; exact hi
      · exact aheadB_trans words i a b hi (h1 b e)
/-- The places in which something is, out of the first n. -/
def liveM (words : List Int) : Nat → List Int
  | 0 => []
  | n + 1 => if (unpack (getI words n)).state = 1 then (n : Int) :: liveM words n else liveM words n
theorem liveM_lt (words : List Int) : ∀ n, ∀ a ∈ liveM words n, 0 ≤ a ∧ a < n ∧ (unpack (getI words a)).state = 1
  | 0, a, h => by simp [liveM] at h
  | n + 1, a, h => by
    unfold liveM at h
    split at h
    · rename_i hs
      rcases List.mem_cons.1 h with e | e
      · subst e; exact ⟨by omega, by omega, hs⟩
      · have := liveM_lt words n a e; omega
    · have := liveM_lt words n a h; omega
theorem rowM_perm (words : List Int) : ∀ n, (rowM words n).Perm (liveM words n)
  | 0 => List.Perm.refl _
  | n + 1 => by
    unfold rowM liveM
    split
    · exact (insB_perm words n _).trans (List.Perm.cons _ (rowM_perm words n))
    · exact rowM_perm words n
theorem rowM_sorted (words : List Int) : ∀ n, (rowM words n).Pairwise (fun a b => aheadB words a b = true)
  | 0 => List.Pairwise.nil
  | n + 1 => by
    unfold rowM
    split
    · refine insB_sorted words n _ (rowM_sorted words n) (fun a ha => ?_)
      have := liveM_lt words n a ((rowM_perm words n).mem_iff.1 ha)
      omega
    · exact rowM_sorted words n
/-- Whatever row holds the places in which something is, in order, is the row. -/
theorem orderM_eq (words l : List Int) (p : l.Perm (liveM words words.length)) (h : l.Pairwise (fun a b => aheadB words a b = true)) : l = orderM words :=
  eq_of_sorted (fun a b => aheadB_asymm words a b) (p.trans (rowM_perm words _).symm) h (rowM_sorted words _)
end Go.Proofs.Ytdhcomklmckhoaa
