/- Things sorted by how they came, those of the left end turned round, stand in order. Plain Lean over the comparison. -/
import Derived.Test.YtdhcomklmckhoaaOrderM
import Derived.Test.YtdhcomklmckhoaaSortThing
namespace Go.Proofs.Ytdhcomklmckhoaa
open Go.Sort
set_option linter.unusedSimpArgs false
def leftT (words : List Int) : Nat → List Thing
  | 0 => []
  | n + 1 => if (unpack (getI words n)).state = 1 ∧ (unpack (getI words n)).fin = 0 then leftT words n ++ [((n : Int), unpack (getI words n))] else leftT words n
def rightT (words : List Int) : Nat → List Thing
  | 0 => []
  | n + 1 => if (unpack (getI words n)).state = 1 ∧ (unpack (getI words n)).fin ≠ 0 then rightT words n ++ [((n : Int), unpack (getI words n))] else rightT words n
theorem leftT_mem (words : List Int) : ∀ n, ∀ t ∈ leftT words n, t.2 = unpack (getI words t.1) ∧ t.2.fin = 0 ∧ t.1 < n
  | 0, t, h => by simp [leftT] at h
  | n + 1, t, h => by
    unfold leftT at h
    split at h
    · rename_i hs
      rcases List.mem_append.1 h with e | e
      · have := leftT_mem words n t e; exact ⟨this.1, this.2.1, by omega⟩
      · obtain rfl := List.mem_singleton.1 e; exact ⟨rfl, hs.2, by simp; omega⟩
    · have := leftT_mem words n t h; exact ⟨this.1, this.2.1, by omega⟩
theorem rightT_mem (words : List Int) : ∀ n, ∀ t ∈ rightT words n, t.2 = unpack (getI words t.1) ∧ t.2.fin ≠ 0 ∧ t.1 < n
  | 0, t, h => by simp [rightT] at h
  | n + 1, t, h => by
    unfold rightT at h
    split at h
    · rename_i hs
      rcases List.mem_append.1 h with e | e
      · have := rightT_mem words n t e; exact ⟨this.1, this.2.1, by omega⟩
      · obtain rfl := List.mem_singleton.1 e; exact ⟨rfl, hs.2, by simp; omega⟩
    · have := rightT_mem words n t h; exact ⟨this.1, this.2.1, by omega⟩
theorem both_perm (words : List Int) : ∀ n, ((leftT words n ++ rightT words n).map Prod.fst).Perm (liveM words n)
  | 0 => List.Perm.refl _
  | n + 1 => by
    have ih := both_perm words n
    unfold leftT rightT liveM
    by_cases hs : (unpack (getI words n)).state = 1
    · rw [if_pos hs]
      by_cases hf : (unpack (getI words n)).fin = 0
      · rw [if_pos ⟨hs, hf⟩, if_neg (fun h => h.2 hf)]
        simp only [List.map_append, List.map_cons, List.map_nil, List.append_assoc, List.cons_append, List.nil_append] at *
        exact List.perm_middle.trans (List.Perm.cons _ ih)
      · rw [if_neg (fun h => hf h.2), if_pos ⟨hs, hf⟩]
        simp only [List.map_append, List.map_cons, List.map_nil] at *
        rw [← List.append_assoc]
        exact (List.perm_append_singleton _ _).trans (List.Perm.cons _ ih)
    · rw [if_neg hs, if_neg (fun h => hs h.1), if_neg (fun h => hs h.1)]
      exact ih
theorem leftT_nodup (words : List Int) : ∀ n, ((leftT words n).map Prod.fst).Nodup
  | 0 => by simp [leftT]
  | n + 1 => by
    unfold leftT
    split
    · rw [List.map_append, List.nodup_append]
      refine ⟨leftT_nodup words n, by simp, fun a ha b hb => ?_⟩
      obtain ⟨t, ht, rfl⟩ := List.mem_map.1 ha
      have := (leftT_mem words n t ht).2.2
      simp at hb
      omega
    · exact leftT_nodup words n
theorem rightT_nodup (words : List Int) : ∀ n, ((rightT words n).map Prod.fst).Nodup
  | 0 => by simp [rightT]
  | n + 1 => by
    unfold rightT
    split
    · rw [List.map_append, List.nodup_append]
      refine ⟨rightT_nodup words n, by simp, fun a ha b hb => ?_⟩
      obtain ⟨t, ht, rfl⟩ := List.mem_map.1 ha
      have := (rightT_mem words n t ht).2.2
      simp at hb
      omega
    · exact rightT_nodup words n
/-- What the program lays down is the row. -/
theorem order_row (words : List Int) (l r : List Thing) (pl : l.Perm (leftT words words.length)) (pr : r.Perm (rightT words words.length))
    (hl : l.Pairwise (fun a b => ltOf (fun a b => tcmp b a) b a = false)) (hr : r.Pairwise (fun a b => ltOf tcmp b a = false)) : (l ++ r).map Prod.fst = orderM words := by
  refine orderM_eq words _ (((pl.append pr).map Prod.fst).trans (both_perm words _)) ?_
  rw [List.pairwise_map, List.pairwise_append]
  refine ⟨?_, ?_, fun a ha b hb => ?_⟩
  · have nd := (pl.map Prod.fst).nodup_iff.2 (leftT_nodup words _)
    rw [List.Nodup, List.pairwise_map] at nd
    refine ((hl.and nd).imp_of_mem ?_)
    rintro a b ha hb ⟨h, hne⟩
    obtain ⟨e1, f1, _⟩ := leftT_mem words _ a (pl.mem_iff.1 ha)
    obtain ⟨e2, f2, _⟩ := leftT_mem words _ b (pl.mem_iff.1 hb)
    rw [rcmp_lt, tcmp_lt, decide_eq_false_iff_not] at h
    unfold aheadB
    rw [← e1, ← e2]
    simp only [laterB_iff, f1, f2]
    simp only [ne_eq, not_true, if_false, if_true, decide_eq_true_eq]
    omega
  · have nd := (pr.map Prod.fst).nodup_iff.2 (rightT_nodup words _)
    rw [List.Nodup, List.pairwise_map] at nd
    refine ((hr.and nd).imp_of_mem ?_)
    rintro a b ha hb ⟨h, hne⟩
    obtain ⟨e1, f1, _⟩ := rightT_mem words _ a (pr.mem_iff.1 ha)
    obtain ⟨e2, f2, _⟩ := rightT_mem words _ b (pr.mem_iff.1 hb)
    have g1 : a.2.fin = 1 := by have : a.2.fin = 0 ∨ a.2.fin = 1 := by rw [e1]; simp only [unpack]; omega
                                omega
    have g2 : b.2.fin = 1 := by have : b.2.fin = 0 ∨ b.2.fin = 1 := by rw [e2]; simp only [unpack]; omega
                                omega
    rw [tcmp_lt, decide_eq_false_iff_not] at h
    unfold aheadB
    rw [← e1, ← e2]
    simp only [laterB_iff, g1, g2]
    simp
    omega
  · obtain ⟨e1, f1, _⟩ := leftT_mem words _ a (pl.mem_iff.1 ha)
    obtain ⟨e2, f2, _⟩ := rightT_mem words _ b (pr.mem_iff.1 hb)
    unfold aheadB
    rw [← e1, ← e2]
    simp only [f1]
    rw [if_pos (fun h => f2 h.symm)]
    rfl
end Go.Proofs.Ytdhcomklmckhoaa
