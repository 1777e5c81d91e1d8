/- The library's sort at a row of one's own of things: a permutation, in order. Conditions: fewer than 2^62 things. -/
import Derived.Test.YtdhcomklmckhoaaSortThing
namespace Go.Proofs.Ytdhcomklmckhoaa
open Go.Shelf Go.RowKit Go.Lib Go.Sort Go.SepYtdhcomklmckhoaa
set_option linter.unusedVariables false
theorem thing_len (x : Thing) : (thingC x).length = 6 := rfl
theorem perm_whole {α : Type} [Inhabited α] {d d' : Array α} (h : PermIn 0 d.size d d') : d'.size = d.size ∧ d'.toList.Perm d.toList := by
  obtain ⟨h1, _, h2⟩ := h
  refine ⟨h1, ?_⟩
  rw [show d'.extract 0 d.size = d' by rw [← h1]; simp, show d.extract 0 d.size = d by simp] at h2
  exact h2
theorem sorted_whole {α : Type} [Inhabited α] {lt : α → α → Bool} {d : Array α} (h : SortedIn lt 0 d.size d) : d.toList.Pairwise (fun a b => lt b a = false) := by
  rw [List.pairwise_iff_getElem]
  intro i j hi hj hij
  have := h i j (Nat.zero_le _) hij (by simpa using hj)
  rw [getElem!_pos d j (by simpa using hj), getElem!_pos d i (by simpa using hi)] at this
  simpa using this
theorem sort_some {E w : World} {L : List SA} {g n cap : Nat} (f : Nat) (cf : Thing → Thing → Int) (hO : SWO (ltOf cf)) (eg : ∀ args w, (callFunc f args).run Try.prog w = .ok (.enter f args) w)
    (hc : ∀ blk off size w, CmpLays Try.prog f #[] thingC 6 cf blk off size w) (l : List Thing) (hn : l.length = n) (hlt : n < 4611686018427387904)
    (h : sat E w (rowA (.slice (some ⟨g, 0, none⟩) n cap) 134 6 n (l.flatMap thingC) :: L)) (hg : g < w.heap.size) :
    Calls Try.prog 82 #[.slice (some ⟨g, 0, none⟩) n cap, .func (.func f) #[] #[]] w fun e w' =>
      e = .returned (.tuple #[]) ∧ ∃ l' : List Thing, l'.Perm l ∧ l'.Pairwise (fun a b => ltOf cf b a = false) ∧ sat E w' (rowA (.slice (some ⟨g, 0, none⟩) n cap) 134 6 n (l'.flatMap thingC) :: L) := by
  subst hn
  have hH : HoldsK thingC 6 w g 0 l.toArray := sat.holdsK (n := l.length) (cap := cap) thing_len (by decide) l.toArray (by simp) (by simpa using h)
  have hcon := AnyQ.slices_SortFunc Try.sortThing 6 Try.isAgg134 Try.sizeOf134 thingC thing_len (fun x v hv => by simp [thingC] at hv; rcases hv with rfl | rfl | rfl | rfl | rfl | rfl <;> rfl) cf hO f #[] g 0 cap l.toArray w eg (hc _ _ _ _) hH hg (by simpa using hlt)
  change Calls Try.prog 82 _ _ _ at hcon
  simp only [List.size_toArray] at hcon
  refine hcon.mono fun e w' ⟨he, d', m, os, hp, hs, hw⟩ => ?_
  obtain ⟨h1, h2⟩ := perm_whole (d := l.toArray) (by simpa using hp)
  have h1' : d'.size = l.length := by simpa using h1
  refine ⟨he, d'.toList, by simpa using h2, sorted_whole (by rw [h1']; exact hs), ?_⟩
  subst hw
  exact sat.sortedK thing_len (by decide) d' h1' h
end Go.Proofs.Ytdhcomklmckhoaa
