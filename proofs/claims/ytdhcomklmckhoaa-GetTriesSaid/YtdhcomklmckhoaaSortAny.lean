/- The library's sort at whatever row of one's own of things. Conditions: fewer than 2^62 things. -/
import Derived.Test.YtdhcomklmckhoaaSortCalls
import Derived.Shelf.SlSortCmp.NoneTotal
namespace Go.Proofs.Ytdhcomklmckhoaa
open Go.Shelf Go.RowKit Go.Lib Go.Sort Go.SepYtdhcomklmckhoaa
set_option linter.unusedVariables false
theorem sort_any {E w : World} {L : List SA} {v : Value} {n : Nat} (f : Nat) (cf : Thing → Thing → Int) (hO : SWO (ltOf cf)) (eg : ∀ args w, (callFunc f args).run Try.prog w = .ok (.enter f args) w)
    (hc : ∀ blk off size w, CmpLays Try.prog f #[] thingC 6 cf blk off size w) (l : List Thing) (hn : l.length = n) (hlt : n < 4611686018427387904)
    (h : sat E w (rowA v 134 6 n (l.flatMap thingC) :: L)) :
    Calls Try.prog 82 #[v, .func (.func f) #[] #[]] w fun e w' =>
      e = .returned (.tuple #[]) ∧ ∃ l' : List Thing, l'.Perm l ∧ l'.Pairwise (fun a b => ltOf cf b a = false) ∧ sat E w' (rowA v 134 6 n (l'.flatMap thingC) :: L) := by
  obtain ⟨_, ⟨rfl, rfl, _⟩ | ⟨g, cap, cur, rfl, _, _, _, _, h5⟩⟩ := h.row_open
  · obtain rfl := List.length_eq_zero_iff.1 hn
    have hcon := AnyF.slices_SortFunc_none Try.sortThing none 0 (.func (.func f) #[] #[]) w
    change Calls Try.prog 82 _ _ _ at hcon
    refine hcon.mono fun e w' ⟨he, hw⟩ => ⟨he, [], List.Perm.refl _, List.Pairwise.nil, ?_⟩
    subst hw
    exact h
  · exact sort_some f cf hO eg hc l hn hlt h h5.lt
end Go.Proofs.Ytdhcomklmckhoaa
