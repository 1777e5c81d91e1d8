/-
  No cell of these rows narrows 'for every input' (looked for: loops, veiled, ifaces, maps, wideKeys, modest, calm, conditions, laid).
  DERIVED. THE GIVEN ROWS OF THIS SEAT. 2 by the template 'for every input the law returns true; each argument reads behind the call as it read before'; 0 by the template 'total and deterministic' (their statements: YthlipcejeeoacabTotals.lean).
  GIVEN WITH THE SEED: the statements are not yours to turn. If you find one false, say at which input.
  Laid BY PROGRAM, IN A SANDBOX (cutbox-rows.mjs): the forced cells as the released guide's own fill.sh prints them over the translation ca4da4d0be1adfee… (all of the seat's roots in one cut). By AI agents, Wed Nov 11 2026. No macro, syntax, notation, axiom, sorry.
-/
import Derived.Test.YthlipcejeeoacabChecked
import GoSem.Claim
import GoSem.ClaimJoined
import GoSem.ClaimMapViews
import Derived.JoinedTies
import Derived.KernelRfl
namespace Go.Proofs.Ythlipcejeeoacab
/- THE CELL 'sum', in the pinned program and in every row, IS THE sha256 OF THE DUMP (.gsa) THAT YthlipcejeeoacabProg.lean LOADS. Nothing in Lean hashes anything: it is a label: what it is worth is what the hold of that sum in a sandbox is worth. -/
noncomputable def Try.pinned : Pinned := { name := "ythlipcejeeoacab", sum := "ca4da4d0be1adfee89d1eba0b5b8ef3df7bc23f2666692b3991aaf98893205cf", checked := Try.checked }
namespace Rows
def none {H : Type} : Left H := { results := [], args := [] }

/-- 'stackyardlaw14.HistRights': WHATEVER THE INPUT: true; the input reads as it did. -/
def histRightsSpec : ChangeSpec := { name := "histRights", fn := fun _ => fun
  | [d] => { results := [.lit (.bool true)], args := [d] }
  | _ => none }
def histRightsRow : OpenClaim := { program := "ythlipcejeeoacab", sum := "ca4da4d0be1adfee89d1eba0b5b8ef3df7bc23f2666692b3991aaf98893205cf", func := "stackyard/stackyardlaw14.HistRights", spec := "histRights", unfollowed := true, recurses := true, apart := false }
def HistRightsSaid : Prop := histRightsRow.holds Try.pinned (OpenSpec.ofChange histRightsSpec)

/-- ITS FALSE NEIGHBOUR: 'it returns false'. Refute it at one input. -/
def histRightsWrong : ChangeSpec := { name := "histRights", fn := fun _ => fun
  | [d] => { results := [.lit (.bool false)], args := [d] }
  | _ => none }
def HistRightsWrongFalsely : Prop := histRightsRow.holds Try.pinned (OpenSpec.ofChange histRightsWrong)

/-- 'stackyardlaw14.HistCuts': WHATEVER THE INPUT: true; the input reads as it did. -/
def histCutsSpec : ChangeSpec := { name := "histCuts", fn := fun _ => fun
  | [d1, d2] => { results := [.lit (.bool true)], args := [d1, d2] }
  | _ => none }
def histCutsRow : OpenClaim := { program := "ythlipcejeeoacab", sum := "ca4da4d0be1adfee89d1eba0b5b8ef3df7bc23f2666692b3991aaf98893205cf", func := "stackyard/stackyardlaw14.HistCuts", spec := "histCuts", unfollowed := true, recurses := true, apart := false }
def HistCutsSaid : Prop := histCutsRow.holds Try.pinned (OpenSpec.ofChange histCutsSpec)

/-- ITS FALSE NEIGHBOUR: 'it returns false'. Refute it at one input. -/
def histCutsWrong : ChangeSpec := { name := "histCuts", fn := fun _ => fun
  | [d1, d2] => { results := [.lit (.bool false)], args := [d1, d2] }
  | _ => none }
def HistCutsWrongFalsely : Prop := histCutsRow.holds Try.pinned (OpenSpec.ofChange histCutsWrong)

/- THE SECOND FORM. 'bulk': how many values and letters a reading holds, each counted each time it is reached (what is shared counts as often as it is met; a slice's spare places count too). A statement '..UptoSaid' is the law's where the arguments, and the package variables that the reading takes, are together of bulk at most 1048576: NARROWER than '..Said'. Prove '..Said' where nothing that the law and all that it calls make is longer than what came in: it says more and counts as full. Else prove '..UptoSaid'. A law counts once. -/
mutual
def uptoBulk {H : Type} : DataW H → Nat
  | .lit (.string bytes) => bytes.length + 1
  | .lit _ => 1
  | .nil => 1
  | .ptr d => uptoBulk d + 1
  | .slice elems spare => uptoBulkAll elems + uptoBulkAll spare + 1
  | .agg parts => uptoBulkAll parts + 1
  | .iface _ d => uptoBulk d + 1
  | .map entries => uptoBulkEntries entries + 1
  | .held _ => 1
def uptoBulkAll {H : Type} : List (DataW H) → Nat
  | [] => 0
  | d :: r => uptoBulk d + uptoBulkAll r
def uptoBulkEntries {H : Type} : List (Lit × DataW H) → Nat
  | [] => 0
  | x :: r => uptoBulkEntry x + uptoBulkEntries r
def uptoBulkEntry {H : Type} : Lit × DataW H → Nat
  | (.string bytes, d) => bytes.length + uptoBulk d + 1
  | (_, d) => uptoBulk d + 1
 end
def uptoSmall : (H : Type) → List (DataW H) → Bool := fun _ ds => decide (uptoBulkAll ds ≤ 1048576)
def OpenSpec.upto (s : _root_.Go.ChangeSpec) : _root_.Go.OpenSpec := { _root_.Go.OpenSpec.ofChange s with cond := some uptoSmall }

/-- 'stackyardlaw14.HistRights', WHERE WHAT IT READS IS OF BULK AT MOST 1048576: true; the input reads as it did. -/
def histRightsUptoRow : OpenClaim := { program := "ythlipcejeeoacab", sum := "ca4da4d0be1adfee89d1eba0b5b8ef3df7bc23f2666692b3991aaf98893205cf", func := "stackyard/stackyardlaw14.HistRights", spec := "histRights", unfollowed := true, recurses := true, apart := false, narrowed := true }
def HistRightsUptoSaid : Prop := histRightsUptoRow.holds Try.pinned (OpenSpec.upto histRightsSpec)

/-- 'stackyardlaw14.HistCuts', WHERE WHAT IT READS IS OF BULK AT MOST 1048576: true; the input reads as it did. -/
def histCutsUptoRow : OpenClaim := { program := "ythlipcejeeoacab", sum := "ca4da4d0be1adfee89d1eba0b5b8ef3df7bc23f2666692b3991aaf98893205cf", func := "stackyard/stackyardlaw14.HistCuts", spec := "histCuts", unfollowed := true, recurses := true, apart := false, narrowed := true }
def HistCutsUptoSaid : Prop := histCutsUptoRow.holds Try.pinned (OpenSpec.upto histCutsSpec)

end Rows
end Go.Proofs.Ythlipcejeeoacab
