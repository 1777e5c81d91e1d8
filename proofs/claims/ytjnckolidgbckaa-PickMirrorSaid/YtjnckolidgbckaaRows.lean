/-
  No cell of these rows narrows 'for every input' (looked for: loops, veiled, ifaces, maps, wideKeys, modest, calm, conditions, laid).
  DERIVED. THE GIVEN ROWS OF THIS SEAT. 6 by the template 'for every input the law returns true; each argument reads behind the call as it read before'; 0 by the template 'total and deterministic' (their statements: YtjnckolidgbckaaTotals.lean).
  GIVEN WITH THE SEED: the statements are not yours to turn. If you find one false, say at which input.
  Laid BY PROGRAM, IN A SANDBOX (cutbox-rows.mjs): the forced cells as the released guide's own fill.sh prints them over the translation ec3da5c3f2aeb570… (all of the seat's roots in one cut). By AI agents, Wed Nov 11 2026. No macro, syntax, notation, axiom, sorry.
-/
import Derived.Test.YtjnckolidgbckaaChecked
import GoSem.Claim
import GoSem.ClaimJoined
import GoSem.ClaimMapViews
import Derived.JoinedTies
import Derived.KernelRfl
namespace Go.Proofs.Ytjnckolidgbckaa
/- THE CELL 'sum', in the pinned program and in every row, IS THE sha256 OF THE DUMP (.gsa) THAT YtjnckolidgbckaaProg.lean LOADS. Nothing in Lean hashes anything: it is a label: what it is worth is what the hold of that sum in a sandbox is worth. -/
noncomputable def Try.pinned : Pinned := { name := "ytjnckolidgbckaa", sum := "ec3da5c3f2aeb570595b5271d96014582f9a44b13a705d3ead67ec3092e8ac75", checked := Try.checked }
namespace Rows
def none {H : Type} : Left H := { results := [], args := [] }

/-- 'stackyardlaw08.PickOrders': WHATEVER THE INPUT: true; the input reads as it did. -/
def pickOrdersSpec : ChangeSpec := { name := "pickOrders", fn := fun _ => fun
  | [d] => { results := [.lit (.bool true)], args := [d] }
  | _ => none }
def pickOrdersRow : OpenClaim := { program := "ytjnckolidgbckaa", sum := "ec3da5c3f2aeb570595b5271d96014582f9a44b13a705d3ead67ec3092e8ac75", func := "stackyard/stackyardlaw08.PickOrders", spec := "pickOrders", unfollowed := true, recurses := true, apart := false }
def PickOrdersSaid : Prop := pickOrdersRow.holds Try.pinned (OpenSpec.ofChange pickOrdersSpec)

/-- ITS FALSE NEIGHBOUR: 'it returns false'. Refute it at one input. -/
def pickOrdersWrong : ChangeSpec := { name := "pickOrders", fn := fun _ => fun
  | [d] => { results := [.lit (.bool false)], args := [d] }
  | _ => none }
def PickOrdersWrongFalsely : Prop := pickOrdersRow.holds Try.pinned (OpenSpec.ofChange pickOrdersWrong)

/-- 'stackyardlaw08.PickEnds': WHATEVER THE INPUT: true; the input reads as it did. -/
def pickEndsSpec : ChangeSpec := { name := "pickEnds", fn := fun _ => fun
  | [d] => { results := [.lit (.bool true)], args := [d] }
  | _ => none }
def pickEndsRow : OpenClaim := { program := "ytjnckolidgbckaa", sum := "ec3da5c3f2aeb570595b5271d96014582f9a44b13a705d3ead67ec3092e8ac75", func := "stackyard/stackyardlaw08.PickEnds", spec := "pickEnds", unfollowed := true, recurses := true, apart := false }
def PickEndsSaid : Prop := pickEndsRow.holds Try.pinned (OpenSpec.ofChange pickEndsSpec)

/-- ITS FALSE NEIGHBOUR: 'it returns false'. Refute it at one input. -/
def pickEndsWrong : ChangeSpec := { name := "pickEnds", fn := fun _ => fun
  | [d] => { results := [.lit (.bool false)], args := [d] }
  | _ => none }
def PickEndsWrongFalsely : Prop := pickEndsRow.holds Try.pinned (OpenSpec.ofChange pickEndsWrong)

/-- 'stackyardlaw08.PickNewest': WHATEVER THE INPUT: true; the input reads as it did. -/
def pickNewestSpec : ChangeSpec := { name := "pickNewest", fn := fun _ => fun
  | [d1, d2] => { results := [.lit (.bool true)], args := [d1, d2] }
  | _ => none }
def pickNewestRow : OpenClaim := { program := "ytjnckolidgbckaa", sum := "ec3da5c3f2aeb570595b5271d96014582f9a44b13a705d3ead67ec3092e8ac75", func := "stackyard/stackyardlaw08.PickNewest", spec := "pickNewest", unfollowed := true, recurses := true, apart := false }
def PickNewestSaid : Prop := pickNewestRow.holds Try.pinned (OpenSpec.ofChange pickNewestSpec)

/-- ITS FALSE NEIGHBOUR: 'it returns false'. Refute it at one input. -/
def pickNewestWrong : ChangeSpec := { name := "pickNewest", fn := fun _ => fun
  | [d1, d2] => { results := [.lit (.bool false)], args := [d1, d2] }
  | _ => none }
def PickNewestWrongFalsely : Prop := pickNewestRow.holds Try.pinned (OpenSpec.ofChange pickNewestWrong)

/-- 'stackyardlaw08.PickBefore': WHATEVER THE INPUT: true; the input reads as it did. -/
def pickBeforeSpec : ChangeSpec := { name := "pickBefore", fn := fun _ => fun
  | [d] => { results := [.lit (.bool true)], args := [d] }
  | _ => none }
def pickBeforeRow : OpenClaim := { program := "ytjnckolidgbckaa", sum := "ec3da5c3f2aeb570595b5271d96014582f9a44b13a705d3ead67ec3092e8ac75", func := "stackyard/stackyardlaw08.PickBefore", spec := "pickBefore", unfollowed := true, recurses := true, apart := false }
def PickBeforeSaid : Prop := pickBeforeRow.holds Try.pinned (OpenSpec.ofChange pickBeforeSpec)

/-- ITS FALSE NEIGHBOUR: 'it returns false'. Refute it at one input. -/
def pickBeforeWrong : ChangeSpec := { name := "pickBefore", fn := fun _ => fun
  | [d] => { results := [.lit (.bool false)], args := [d] }
  | _ => none }
def PickBeforeWrongFalsely : Prop := pickBeforeRow.holds Try.pinned (OpenSpec.ofChange pickBeforeWrong)

/-- 'stackyardlaw08.PickLess': WHATEVER THE INPUT: true; the input reads as it did. -/
def pickLessSpec : ChangeSpec := { name := "pickLess", fn := fun _ => fun
  | [d1, d2] => { results := [.lit (.bool true)], args := [d1, d2] }
  | _ => none }
def pickLessRow : OpenClaim := { program := "ytjnckolidgbckaa", sum := "ec3da5c3f2aeb570595b5271d96014582f9a44b13a705d3ead67ec3092e8ac75", func := "stackyard/stackyardlaw08.PickLess", spec := "pickLess", unfollowed := true, recurses := true, apart := false }
def PickLessSaid : Prop := pickLessRow.holds Try.pinned (OpenSpec.ofChange pickLessSpec)

/-- ITS FALSE NEIGHBOUR: 'it returns false'. Refute it at one input. -/
def pickLessWrong : ChangeSpec := { name := "pickLess", fn := fun _ => fun
  | [d1, d2] => { results := [.lit (.bool false)], args := [d1, d2] }
  | _ => none }
def PickLessWrongFalsely : Prop := pickLessRow.holds Try.pinned (OpenSpec.ofChange pickLessWrong)

/-- 'stackyardlaw08.PickMirror': WHATEVER THE INPUT: true; the input reads as it did. -/
def pickMirrorSpec : ChangeSpec := { name := "pickMirror", fn := fun _ => fun
  | [d] => { results := [.lit (.bool true)], args := [d] }
  | _ => none }
def pickMirrorRow : OpenClaim := { program := "ytjnckolidgbckaa", sum := "ec3da5c3f2aeb570595b5271d96014582f9a44b13a705d3ead67ec3092e8ac75", func := "stackyard/stackyardlaw08.PickMirror", spec := "pickMirror", unfollowed := true, recurses := true, apart := false }
def PickMirrorSaid : Prop := pickMirrorRow.holds Try.pinned (OpenSpec.ofChange pickMirrorSpec)

/-- ITS FALSE NEIGHBOUR: 'it returns false'. Refute it at one input. -/
def pickMirrorWrong : ChangeSpec := { name := "pickMirror", fn := fun _ => fun
  | [d] => { results := [.lit (.bool false)], args := [d] }
  | _ => none }
def PickMirrorWrongFalsely : Prop := pickMirrorRow.holds Try.pinned (OpenSpec.ofChange pickMirrorWrong)

/- THE SECOND FORM. 'bulk': how many values and letters a reading holds, each counted each time it is reached (what is shared counts as often as it is met; a slice's spare places count too). A statement '..UptoSaid' is the law's where the arguments, and the package variables that the reading takes, are together of bulk at most 1048576: NARROWER than '..Said'. Prove '..Said' where nothing that the law and all that it calls make is longer than what came in: it says more and counts as full. Else prove '..UptoSaid'. A law counts once. -/
mutual
def uptoBulk {H : Type} : DataW H → Nat
  | .lit (.string bytes) => bytes.length + 1
  | .lit _ => 1
  | .nil => 1
  | .ptr d => uptoBulk d + 1
  | .slice elems spare => uptoBulkAll elems + uptoBulkAll spare + 1
  | .agg parts => uptoBulkAll parts + 1
  | .iface _ d => uptoBulk d + 1
  | .map entries => uptoBulkEntries entries + 1
  | .held _ => 1
def uptoBulkAll {H : Type} : List (DataW H) → Nat
  | [] => 0
  | d :: r => uptoBulk d + uptoBulkAll r
def uptoBulkEntries {H : Type} : List (Lit × DataW H) → Nat
  | [] => 0
  | x :: r => uptoBulkEntry x + uptoBulkEntries r
def uptoBulkEntry {H : Type} : Lit × DataW H → Nat
  | (.string bytes, d) => bytes.length + uptoBulk d + 1
  | (_, d) => uptoBulk d + 1
 end
def uptoSmall : (H : Type) → List (DataW H) → Bool := fun _ ds => decide (uptoBulkAll ds ≤ 1048576)
def OpenSpec.upto (s : _root_.Go.ChangeSpec) : _root_.Go.OpenSpec := { _root_.Go.OpenSpec.ofChange s with cond := some uptoSmall }

/-- 'stackyardlaw08.PickOrders', WHERE WHAT IT READS IS OF BULK AT MOST 1048576: true; the input reads as it did. -/
def pickOrdersUptoRow : OpenClaim := { program := "ytjnckolidgbckaa", sum := "ec3da5c3f2aeb570595b5271d96014582f9a44b13a705d3ead67ec3092e8ac75", func := "stackyard/stackyardlaw08.PickOrders", spec := "pickOrders", unfollowed := true, recurses := true, apart := false, narrowed := true }
def PickOrdersUptoSaid : Prop := pickOrdersUptoRow.holds Try.pinned (OpenSpec.upto pickOrdersSpec)

/-- 'stackyardlaw08.PickEnds', WHERE WHAT IT READS IS OF BULK AT MOST 1048576: true; the input reads as it did. -/
def pickEndsUptoRow : OpenClaim := { program := "ytjnckolidgbckaa", sum := "ec3da5c3f2aeb570595b5271d96014582f9a44b13a705d3ead67ec3092e8ac75", func := "stackyard/stackyardlaw08.PickEnds", spec := "pickEnds", unfollowed := true, recurses := true, apart := false, narrowed := true }
def PickEndsUptoSaid : Prop := pickEndsUptoRow.holds Try.pinned (OpenSpec.upto pickEndsSpec)

/-- 'stackyardlaw08.PickNewest', WHERE WHAT IT READS IS OF BULK AT MOST 1048576: true; the input reads as it did. -/
def pickNewestUptoRow : OpenClaim := { program := "ytjnckolidgbckaa", sum := "ec3da5c3f2aeb570595b5271d96014582f9a44b13a705d3ead67ec3092e8ac75", func := "stackyard/stackyardlaw08.PickNewest", spec := "pickNewest", unfollowed := true, recurses := true, apart := false, narrowed := true }
def PickNewestUptoSaid : Prop := pickNewestUptoRow.holds Try.pinned (OpenSpec.upto pickNewestSpec)

/-- 'stackyardlaw08.PickBefore', WHERE WHAT IT READS IS OF BULK AT MOST 1048576: true; the input reads as it did. -/
def pickBeforeUptoRow : OpenClaim := { program := "ytjnckolidgbckaa", sum := "ec3da5c3f2aeb570595b5271d96014582f9a44b13a705d3ead67ec3092e8ac75", func := "stackyard/stackyardlaw08.PickBefore", spec := "pickBefore", unfollowed := true, recurses := true, apart := false, narrowed := true }
def PickBeforeUptoSaid : Prop := pickBeforeUptoRow.holds Try.pinned (OpenSpec.upto pickBeforeSpec)

/-- 'stackyardlaw08.PickLess', WHERE WHAT IT READS IS OF BULK AT MOST 1048576: true; the input reads as it did. -/
def pickLessUptoRow : OpenClaim := { program := "ytjnckolidgbckaa", sum := "ec3da5c3f2aeb570595b5271d96014582f9a44b13a705d3ead67ec3092e8ac75", func := "stackyard/stackyardlaw08.PickLess", spec := "pickLess", unfollowed := true, recurses := true, apart := false, narrowed := true }
def PickLessUptoSaid : Prop := pickLessUptoRow.holds Try.pinned (OpenSpec.upto pickLessSpec)

/-- 'stackyardlaw08.PickMirror', WHERE WHAT IT READS IS OF BULK AT MOST 1048576: true; the input reads as it did. -/
def pickMirrorUptoRow : OpenClaim := { program := "ytjnckolidgbckaa", sum := "ec3da5c3f2aeb570595b5271d96014582f9a44b13a705d3ead67ec3092e8ac75", func := "stackyard/stackyardlaw08.PickMirror", spec := "pickMirror", unfollowed := true, recurses := true, apart := false, narrowed := true }
def PickMirrorUptoSaid : Prop := pickMirrorUptoRow.holds Try.pinned (OpenSpec.upto pickMirrorSpec)

end Rows
end Go.Proofs.Ytjnckolidgbckaa
