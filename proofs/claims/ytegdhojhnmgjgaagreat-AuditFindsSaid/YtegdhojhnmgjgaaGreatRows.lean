/-
  No cell of these rows narrows 'for every input' (looked for: loops, veiled, ifaces, maps, wideKeys, modest, calm, conditions, laid).
  DERIVED. THE GIVEN ROWS OF THIS SEAT. 6 by the template 'for every input the law returns true; each argument reads behind the call as it read before'; 0 by the template 'total and deterministic' (their statements: YtegdhojhnmgjgaaGreatTotals.lean).
  GIVEN WITH THE SEED: the statements are not yours to turn. If you find one false, say at which input.
  Laid BY PROGRAM, IN A SANDBOX (cutbox-rows.mjs): the forced cells as the released guide's own fill.sh prints them over the translation f0059b3b7ee95fc2… (all of the seat's roots in one cut). By AI agents, Wed Nov 11 2026. No macro, syntax, notation, axiom, sorry.
-/
import Derived.Test.YtegdhojhnmgjgaaGreatChecked
import GoSem.Claim
import GoSem.ClaimJoined
import GoSem.ClaimMapViews
import Derived.JoinedTies
import Derived.KernelRfl
namespace Go.Proofs.YtegdhojhnmgjgaaGreat
/- THE CELL 'sum', in the pinned program and in every row, IS THE sha256 OF THE DUMP (.gsa) THAT YtegdhojhnmgjgaaGreatProg.lean LOADS. Nothing in Lean hashes anything: it is a label: what it is worth is what the hold of that sum in a sandbox is worth. -/
noncomputable def Tryz.pinned : Pinned := { name := "ytegdhojhnmgjgaagreat", sum := "f0059b3b7ee95fc23fbe7bb6d03c97a8b32224495af446e6233166d9555b5993", checked := Tryz.checked }
namespace Rows
def none {H : Type} : Left H := { results := [], args := [] }

/-- 'stackyardlaw13.YardCuts': WHATEVER THE INPUT: true; the input reads as it did. -/
def yardCutsSpec : ChangeSpec := { name := "yardCuts", fn := fun _ => fun
  | [d1, d2, d3, d4, d5] => { results := [.lit (.bool true)], args := [d1, d2, d3, d4, d5] }
  | _ => none }
def yardCutsRow : OpenClaim := { program := "ytegdhojhnmgjgaagreat", sum := "f0059b3b7ee95fc23fbe7bb6d03c97a8b32224495af446e6233166d9555b5993", func := "stackyard/stackyardlaw13.YardCuts", spec := "yardCuts", unfollowed := true, recurses := true, plainKeys := false, apart := false }
def YardCutsSaid : Prop := yardCutsRow.holds Tryz.pinned (OpenSpec.ofChange yardCutsSpec)

/-- ITS FALSE NEIGHBOUR: 'it returns false'. Refute it at one input. -/
def yardCutsWrong : ChangeSpec := { name := "yardCuts", fn := fun _ => fun
  | [d1, d2, d3, d4, d5] => { results := [.lit (.bool false)], args := [d1, d2, d3, d4, d5] }
  | _ => none }
def YardCutsWrongFalsely : Prop := yardCutsRow.holds Tryz.pinned (OpenSpec.ofChange yardCutsWrong)

/-- 'stackyardlaw13.YardMoves': WHATEVER THE INPUT: true; the input reads as it did. -/
def yardMovesSpec : ChangeSpec := { name := "yardMoves", fn := fun _ => fun
  | [d1, d2, d3, d4, d5] => { results := [.lit (.bool true)], args := [d1, d2, d3, d4, d5] }
  | _ => none }
def yardMovesRow : OpenClaim := { program := "ytegdhojhnmgjgaagreat", sum := "f0059b3b7ee95fc23fbe7bb6d03c97a8b32224495af446e6233166d9555b5993", func := "stackyard/stackyardlaw13.YardMoves", spec := "yardMoves", unfollowed := true, recurses := true, plainKeys := false, apart := false }
def YardMovesSaid : Prop := yardMovesRow.holds Tryz.pinned (OpenSpec.ofChange yardMovesSpec)

/-- ITS FALSE NEIGHBOUR: 'it returns false'. Refute it at one input. -/
def yardMovesWrong : ChangeSpec := { name := "yardMoves", fn := fun _ => fun
  | [d1, d2, d3, d4, d5] => { results := [.lit (.bool false)], args := [d1, d2, d3, d4, d5] }
  | _ => none }
def YardMovesWrongFalsely : Prop := yardMovesRow.holds Tryz.pinned (OpenSpec.ofChange yardMovesWrong)

/-- 'stackyardlaw13.YardRights': WHATEVER THE INPUT: true; the input reads as it did. -/
def yardRightsSpec : ChangeSpec := { name := "yardRights", fn := fun _ => fun
  | [d1, d2, d3] => { results := [.lit (.bool true)], args := [d1, d2, d3] }
  | _ => none }
def yardRightsRow : OpenClaim := { program := "ytegdhojhnmgjgaagreat", sum := "f0059b3b7ee95fc23fbe7bb6d03c97a8b32224495af446e6233166d9555b5993", func := "stackyard/stackyardlaw13.YardRights", spec := "yardRights", unfollowed := true, recurses := true, plainKeys := false, apart := false }
def YardRightsSaid : Prop := yardRightsRow.holds Tryz.pinned (OpenSpec.ofChange yardRightsSpec)

/-- ITS FALSE NEIGHBOUR: 'it returns false'. Refute it at one input. -/
def yardRightsWrong : ChangeSpec := { name := "yardRights", fn := fun _ => fun
  | [d1, d2, d3] => { results := [.lit (.bool false)], args := [d1, d2, d3] }
  | _ => none }
def YardRightsWrongFalsely : Prop := yardRightsRow.holds Tryz.pinned (OpenSpec.ofChange yardRightsWrong)

/-- 'stackyardlaw16.BoundWindows': WHATEVER THE INPUT: true; the input reads as it did. -/
def boundWindowsSpec : ChangeSpec := { name := "boundWindows", fn := fun _ => fun
  | [d1, d2, d3, d4, d5, d6] => { results := [.lit (.bool true)], args := [d1, d2, d3, d4, d5, d6] }
  | _ => none }
def boundWindowsRow : OpenClaim := { program := "ytegdhojhnmgjgaagreat", sum := "f0059b3b7ee95fc23fbe7bb6d03c97a8b32224495af446e6233166d9555b5993", func := "stackyard/stackyardlaw16.BoundWindows", spec := "boundWindows", unfollowed := true, recurses := true, plainKeys := false, apart := false }
def BoundWindowsSaid : Prop := boundWindowsRow.holds Tryz.pinned (OpenSpec.ofChange boundWindowsSpec)

/-- ITS FALSE NEIGHBOUR: 'it returns false'. Refute it at one input. -/
def boundWindowsWrong : ChangeSpec := { name := "boundWindows", fn := fun _ => fun
  | [d1, d2, d3, d4, d5, d6] => { results := [.lit (.bool false)], args := [d1, d2, d3, d4, d5, d6] }
  | _ => none }
def BoundWindowsWrongFalsely : Prop := boundWindowsRow.holds Tryz.pinned (OpenSpec.ofChange boundWindowsWrong)

/-- 'stackyardlaw16.BoundOwns': WHATEVER THE INPUT: true; the input reads as it did. -/
def boundOwnsSpec : ChangeSpec := { name := "boundOwns", fn := fun _ => fun
  | [d1, d2, d3, d4, d5, d6] => { results := [.lit (.bool true)], args := [d1, d2, d3, d4, d5, d6] }
  | _ => none }
def boundOwnsRow : OpenClaim := { program := "ytegdhojhnmgjgaagreat", sum := "f0059b3b7ee95fc23fbe7bb6d03c97a8b32224495af446e6233166d9555b5993", func := "stackyard/stackyardlaw16.BoundOwns", spec := "boundOwns", unfollowed := true, recurses := true, plainKeys := false, apart := false }
def BoundOwnsSaid : Prop := boundOwnsRow.holds Tryz.pinned (OpenSpec.ofChange boundOwnsSpec)

/-- ITS FALSE NEIGHBOUR: 'it returns false'. Refute it at one input. -/
def boundOwnsWrong : ChangeSpec := { name := "boundOwns", fn := fun _ => fun
  | [d1, d2, d3, d4, d5, d6] => { results := [.lit (.bool false)], args := [d1, d2, d3, d4, d5, d6] }
  | _ => none }
def BoundOwnsWrongFalsely : Prop := boundOwnsRow.holds Tryz.pinned (OpenSpec.ofChange boundOwnsWrong)

/-- 'stackyardlaw17.AuditFinds': WHATEVER THE INPUT: true; the input reads as it did. -/
def auditFindsSpec : ChangeSpec := { name := "auditFinds", fn := fun _ => fun
  | [d1, d2, d3, d4, d5] => { results := [.lit (.bool true)], args := [d1, d2, d3, d4, d5] }
  | _ => none }
def auditFindsRow : OpenClaim := { program := "ytegdhojhnmgjgaagreat", sum := "f0059b3b7ee95fc23fbe7bb6d03c97a8b32224495af446e6233166d9555b5993", func := "stackyard/stackyardlaw17.AuditFinds", spec := "auditFinds", unfollowed := true, recurses := true, plainKeys := false, apart := false }
def AuditFindsSaid : Prop := auditFindsRow.holds Tryz.pinned (OpenSpec.ofChange auditFindsSpec)

/-- ITS FALSE NEIGHBOUR: 'it returns false'. Refute it at one input. -/
def auditFindsWrong : ChangeSpec := { name := "auditFinds", fn := fun _ => fun
  | [d1, d2, d3, d4, d5] => { results := [.lit (.bool false)], args := [d1, d2, d3, d4, d5] }
  | _ => none }
def AuditFindsWrongFalsely : Prop := auditFindsRow.holds Tryz.pinned (OpenSpec.ofChange auditFindsWrong)

/- THE SECOND FORM. 'bulk': how many values and letters a reading holds, each counted each time it is reached (what is shared counts as often as it is met; a slice's spare places count too). A statement '..UptoSaid' is the law's where the arguments, and the package variables that the reading takes, are together of bulk at most 1048576: NARROWER than '..Said'. Prove '..Said' where nothing that the law and all that it calls make is longer than what came in: it says more and counts as full. Else prove '..UptoSaid'. A law counts once. -/
mutual
def uptoBulk {H : Type} : DataW H → Nat
  | .lit (.string bytes) => bytes.length + 1
  | .lit _ => 1
  | .nil => 1
  | .ptr d => uptoBulk d + 1
  | .slice elems spare => uptoBulkAll elems + uptoBulkAll spare + 1
  | .agg parts => uptoBulkAll parts + 1
  | .iface _ d => uptoBulk d + 1
  | .map entries => uptoBulkEntries entries + 1
  | .held _ => 1
def uptoBulkAll {H : Type} : List (DataW H) → Nat
  | [] => 0
  | d :: r => uptoBulk d + uptoBulkAll r
def uptoBulkEntries {H : Type} : List (Lit × DataW H) → Nat
  | [] => 0
  | x :: r => uptoBulkEntry x + uptoBulkEntries r
def uptoBulkEntry {H : Type} : Lit × DataW H → Nat
  | (.string bytes, d) => bytes.length + uptoBulk d + 1
  | (_, d) => uptoBulk d + 1
 end
def uptoSmall : (H : Type) → List (DataW H) → Bool := fun _ ds => decide (uptoBulkAll ds ≤ 1048576)
def OpenSpec.upto (s : _root_.Go.ChangeSpec) : _root_.Go.OpenSpec := { _root_.Go.OpenSpec.ofChange s with cond := some uptoSmall }

/-- 'stackyardlaw13.YardCuts', WHERE WHAT IT READS IS OF BULK AT MOST 1048576: true; the input reads as it did. -/
def yardCutsUptoRow : OpenClaim := { program := "ytegdhojhnmgjgaagreat", sum := "f0059b3b7ee95fc23fbe7bb6d03c97a8b32224495af446e6233166d9555b5993", func := "stackyard/stackyardlaw13.YardCuts", spec := "yardCuts", unfollowed := true, recurses := true, plainKeys := false, apart := false, narrowed := true }
def YardCutsUptoSaid : Prop := yardCutsUptoRow.holds Tryz.pinned (OpenSpec.upto yardCutsSpec)

/-- 'stackyardlaw13.YardMoves', WHERE WHAT IT READS IS OF BULK AT MOST 1048576: true; the input reads as it did. -/
def yardMovesUptoRow : OpenClaim := { program := "ytegdhojhnmgjgaagreat", sum := "f0059b3b7ee95fc23fbe7bb6d03c97a8b32224495af446e6233166d9555b5993", func := "stackyard/stackyardlaw13.YardMoves", spec := "yardMoves", unfollowed := true, recurses := true, plainKeys := false, apart := false, narrowed := true }
def YardMovesUptoSaid : Prop := yardMovesUptoRow.holds Tryz.pinned (OpenSpec.upto yardMovesSpec)

/-- 'stackyardlaw13.YardRights', WHERE WHAT IT READS IS OF BULK AT MOST 1048576: true; the input reads as it did. -/
def yardRightsUptoRow : OpenClaim := { program := "ytegdhojhnmgjgaagreat", sum := "f0059b3b7ee95fc23fbe7bb6d03c97a8b32224495af446e6233166d9555b5993", func := "stackyard/stackyardlaw13.YardRights", spec := "yardRights", unfollowed := true, recurses := true, plainKeys := false, apart := false, narrowed := true }
def YardRightsUptoSaid : Prop := yardRightsUptoRow.holds Tryz.pinned (OpenSpec.upto yardRightsSpec)

/-- 'stackyardlaw16.BoundWindows', WHERE WHAT IT READS IS OF BULK AT MOST 1048576: true; the input reads as it did. -/
def boundWindowsUptoRow : OpenClaim := { program := "ytegdhojhnmgjgaagreat", sum := "f0059b3b7ee95fc23fbe7bb6d03c97a8b32224495af446e6233166d9555b5993", func := "stackyard/stackyardlaw16.BoundWindows", spec := "boundWindows", unfollowed := true, recurses := true, plainKeys := false, apart := false, narrowed := true }
def BoundWindowsUptoSaid : Prop := boundWindowsUptoRow.holds Tryz.pinned (OpenSpec.upto boundWindowsSpec)

/-- 'stackyardlaw16.BoundOwns', WHERE WHAT IT READS IS OF BULK AT MOST 1048576: true; the input reads as it did. -/
def boundOwnsUptoRow : OpenClaim := { program := "ytegdhojhnmgjgaagreat", sum := "f0059b3b7ee95fc23fbe7bb6d03c97a8b32224495af446e6233166d9555b5993", func := "stackyard/stackyardlaw16.BoundOwns", spec := "boundOwns", unfollowed := true, recurses := true, plainKeys := false, apart := false, narrowed := true }
def BoundOwnsUptoSaid : Prop := boundOwnsUptoRow.holds Tryz.pinned (OpenSpec.upto boundOwnsSpec)

/-- 'stackyardlaw17.AuditFinds', WHERE WHAT IT READS IS OF BULK AT MOST 1048576: true; the input reads as it did. -/
def auditFindsUptoRow : OpenClaim := { program := "ytegdhojhnmgjgaagreat", sum := "f0059b3b7ee95fc23fbe7bb6d03c97a8b32224495af446e6233166d9555b5993", func := "stackyard/stackyardlaw17.AuditFinds", spec := "auditFinds", unfollowed := true, recurses := true, plainKeys := false, apart := false, narrowed := true }
def AuditFindsUptoSaid : Prop := auditFindsUptoRow.holds Tryz.pinned (OpenSpec.upto auditFindsSpec)

end Rows
end Go.Proofs.YtegdhojhnmgjgaaGreat
