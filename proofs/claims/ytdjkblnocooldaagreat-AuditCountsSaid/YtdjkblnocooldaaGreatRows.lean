/-
  No cell of these rows narrows 'for every input' (looked for: loops, veiled, ifaces, maps, wideKeys, modest, calm, conditions, laid).
  DERIVED. THE GIVEN ROWS OF THIS SEAT. 12 by the template 'for every input the law returns true; each argument reads behind the call as it read before'; 0 by the template 'total and deterministic' (their statements: YtdjkblnocooldaaGreatTotals.lean).
  GIVEN WITH THE SEED: the statements are not yours to turn. If you find one false, say at which input.
  Laid BY PROGRAM, IN A SANDBOX (cutbox-rows.mjs): the forced cells as the released guide's own fill.sh prints them over the translation 08442fc81132e46a… (all of the seat's roots in one cut). By AI agents, Wed Nov 11 2026. No macro, syntax, notation, axiom, sorry.
-/
import Derived.Test.YtdjkblnocooldaaGreatChecked
import GoSem.Claim
import GoSem.ClaimJoined
import GoSem.ClaimMapViews
import Derived.JoinedTies
import Derived.KernelRfl
namespace Go.Proofs.YtdjkblnocooldaaGreat
/- THE CELL 'sum', in the pinned program and in every row, IS THE sha256 OF THE DUMP (.gsa) THAT YtdjkblnocooldaaGreatProg.lean LOADS. Nothing in Lean hashes anything: it is a label: what it is worth is what the hold of that sum in a sandbox is worth. -/
noncomputable def Tryz.pinned : Pinned := { name := "ytdjkblnocooldaagreat", sum := "08442fc81132e46a4f10c0c88eebf332e89cb1886b63e70a68ce9546e5a08c6e", checked := Tryz.checked }
namespace Rows
def none {H : Type} : Left H := { results := [], args := [] }

/-- 'stackyardlaw13.YardBusy': WHATEVER THE INPUT: true; the input reads as it did. -/
def yardBusySpec : ChangeSpec := { name := "yardBusy", fn := fun _ => fun
  | [d1, d2, d3, d4] => { results := [.lit (.bool true)], args := [d1, d2, d3, d4] }
  | _ => none }
def yardBusyRow : OpenClaim := { program := "ytdjkblnocooldaagreat", sum := "08442fc81132e46a4f10c0c88eebf332e89cb1886b63e70a68ce9546e5a08c6e", func := "stackyard/stackyardlaw13.YardBusy", spec := "yardBusy", unfollowed := true, recurses := true, plainKeys := false, apart := false }
def YardBusySaid : Prop := yardBusyRow.holds Tryz.pinned (OpenSpec.ofChange yardBusySpec)

/-- ITS FALSE NEIGHBOUR: 'it returns false'. Refute it at one input. -/
def yardBusyWrong : ChangeSpec := { name := "yardBusy", fn := fun _ => fun
  | [d1, d2, d3, d4] => { results := [.lit (.bool false)], args := [d1, d2, d3, d4] }
  | _ => none }
def YardBusyWrongFalsely : Prop := yardBusyRow.holds Tryz.pinned (OpenSpec.ofChange yardBusyWrong)

/-- 'stackyardlaw13.YardOnes': WHATEVER THE INPUT: true; the input reads as it did. -/
def yardOnesSpec : ChangeSpec := { name := "yardOnes", fn := fun _ => fun
  | [d1, d2, d3, d4] => { results := [.lit (.bool true)], args := [d1, d2, d3, d4] }
  | _ => none }
def yardOnesRow : OpenClaim := { program := "ytdjkblnocooldaagreat", sum := "08442fc81132e46a4f10c0c88eebf332e89cb1886b63e70a68ce9546e5a08c6e", func := "stackyard/stackyardlaw13.YardOnes", spec := "yardOnes", unfollowed := true, recurses := true, plainKeys := false, apart := false }
def YardOnesSaid : Prop := yardOnesRow.holds Tryz.pinned (OpenSpec.ofChange yardOnesSpec)

/-- ITS FALSE NEIGHBOUR: 'it returns false'. Refute it at one input. -/
def yardOnesWrong : ChangeSpec := { name := "yardOnes", fn := fun _ => fun
  | [d1, d2, d3, d4] => { results := [.lit (.bool false)], args := [d1, d2, d3, d4] }
  | _ => none }
def YardOnesWrongFalsely : Prop := yardOnesRow.holds Tryz.pinned (OpenSpec.ofChange yardOnesWrong)

/-- 'stackyardlaw13.YardCuts': WHATEVER THE INPUT: true; the input reads as it did. -/
def yardCutsSpec : ChangeSpec := { name := "yardCuts", fn := fun _ => fun
  | [d1, d2, d3, d4, d5] => { results := [.lit (.bool true)], args := [d1, d2, d3, d4, d5] }
  | _ => none }
def yardCutsRow : OpenClaim := { program := "ytdjkblnocooldaagreat", sum := "08442fc81132e46a4f10c0c88eebf332e89cb1886b63e70a68ce9546e5a08c6e", func := "stackyard/stackyardlaw13.YardCuts", spec := "yardCuts", unfollowed := true, recurses := true, plainKeys := false, apart := false }
def YardCutsSaid : Prop := yardCutsRow.holds Tryz.pinned (OpenSpec.ofChange yardCutsSpec)

/-- ITS FALSE NEIGHBOUR: 'it returns false'. Refute it at one input. -/
def yardCutsWrong : ChangeSpec := { name := "yardCuts", fn := fun _ => fun
  | [d1, d2, d3, d4, d5] => { results := [.lit (.bool false)], args := [d1, d2, d3, d4, d5] }
  | _ => none }
def YardCutsWrongFalsely : Prop := yardCutsRow.holds Tryz.pinned (OpenSpec.ofChange yardCutsWrong)

/-- 'stackyardlaw13.YardMoves': WHATEVER THE INPUT: true; the input reads as it did. -/
def yardMovesSpec : ChangeSpec := { name := "yardMoves", fn := fun _ => fun
  | [d1, d2, d3, d4, d5] => { results := [.lit (.bool true)], args := [d1, d2, d3, d4, d5] }
  | _ => none }
def yardMovesRow : OpenClaim := { program := "ytdjkblnocooldaagreat", sum := "08442fc81132e46a4f10c0c88eebf332e89cb1886b63e70a68ce9546e5a08c6e", func := "stackyard/stackyardlaw13.YardMoves", spec := "yardMoves", unfollowed := true, recurses := true, plainKeys := false, apart := false }
def YardMovesSaid : Prop := yardMovesRow.holds Tryz.pinned (OpenSpec.ofChange yardMovesSpec)

/-- ITS FALSE NEIGHBOUR: 'it returns false'. Refute it at one input. -/
def yardMovesWrong : ChangeSpec := { name := "yardMoves", fn := fun _ => fun
  | [d1, d2, d3, d4, d5] => { results := [.lit (.bool false)], args := [d1, d2, d3, d4, d5] }
  | _ => none }
def YardMovesWrongFalsely : Prop := yardMovesRow.holds Tryz.pinned (OpenSpec.ofChange yardMovesWrong)

/-- 'stackyardlaw13.YardBacks': WHATEVER THE INPUT: true; the input reads as it did. -/
def yardBacksSpec : ChangeSpec := { name := "yardBacks", fn := fun _ => fun
  | [d1, d2, d3, d4] => { results := [.lit (.bool true)], args := [d1, d2, d3, d4] }
  | _ => none }
def yardBacksRow : OpenClaim := { program := "ytdjkblnocooldaagreat", sum := "08442fc81132e46a4f10c0c88eebf332e89cb1886b63e70a68ce9546e5a08c6e", func := "stackyard/stackyardlaw13.YardBacks", spec := "yardBacks", unfollowed := true, recurses := true, plainKeys := false, apart := false }
def YardBacksSaid : Prop := yardBacksRow.holds Tryz.pinned (OpenSpec.ofChange yardBacksSpec)

/-- ITS FALSE NEIGHBOUR: 'it returns false'. Refute it at one input. -/
def yardBacksWrong : ChangeSpec := { name := "yardBacks", fn := fun _ => fun
  | [d1, d2, d3, d4] => { results := [.lit (.bool false)], args := [d1, d2, d3, d4] }
  | _ => none }
def YardBacksWrongFalsely : Prop := yardBacksRow.holds Tryz.pinned (OpenSpec.ofChange yardBacksWrong)

/-- 'stackyardlaw14.HistYards': WHATEVER THE INPUT: true; the input reads as it did. -/
def histYardsSpec : ChangeSpec := { name := "histYards", fn := fun _ => fun
  | [d1, d2, d3, d4] => { results := [.lit (.bool true)], args := [d1, d2, d3, d4] }
  | _ => none }
def histYardsRow : OpenClaim := { program := "ytdjkblnocooldaagreat", sum := "08442fc81132e46a4f10c0c88eebf332e89cb1886b63e70a68ce9546e5a08c6e", func := "stackyard/stackyardlaw14.HistYards", spec := "histYards", unfollowed := true, recurses := true, plainKeys := false, apart := false }
def HistYardsSaid : Prop := histYardsRow.holds Tryz.pinned (OpenSpec.ofChange histYardsSpec)

/-- ITS FALSE NEIGHBOUR: 'it returns false'. Refute it at one input. -/
def histYardsWrong : ChangeSpec := { name := "histYards", fn := fun _ => fun
  | [d1, d2, d3, d4] => { results := [.lit (.bool false)], args := [d1, d2, d3, d4] }
  | _ => none }
def HistYardsWrongFalsely : Prop := histYardsRow.holds Tryz.pinned (OpenSpec.ofChange histYardsWrong)

/-- 'stackyardlaw16.BoundWindows': WHATEVER THE INPUT: true; the input reads as it did. -/
def boundWindowsSpec : ChangeSpec := { name := "boundWindows", fn := fun _ => fun
  | [d1, d2, d3, d4, d5, d6] => { results := [.lit (.bool true)], args := [d1, d2, d3, d4, d5, d6] }
  | _ => none }
def boundWindowsRow : OpenClaim := { program := "ytdjkblnocooldaagreat", sum := "08442fc81132e46a4f10c0c88eebf332e89cb1886b63e70a68ce9546e5a08c6e", func := "stackyard/stackyardlaw16.BoundWindows", spec := "boundWindows", unfollowed := true, recurses := true, plainKeys := false, apart := false }
def BoundWindowsSaid : Prop := boundWindowsRow.holds Tryz.pinned (OpenSpec.ofChange boundWindowsSpec)

/-- ITS FALSE NEIGHBOUR: 'it returns false'. Refute it at one input. -/
def boundWindowsWrong : ChangeSpec := { name := "boundWindows", fn := fun _ => fun
  | [d1, d2, d3, d4, d5, d6] => { results := [.lit (.bool false)], args := [d1, d2, d3, d4, d5, d6] }
  | _ => none }
def BoundWindowsWrongFalsely : Prop := boundWindowsRow.holds Tryz.pinned (OpenSpec.ofChange boundWindowsWrong)

/-- 'stackyardlaw16.BoundOwns': WHATEVER THE INPUT: true; the input reads as it did. -/
def boundOwnsSpec : ChangeSpec := { name := "boundOwns", fn := fun _ => fun
  | [d1, d2, d3, d4, d5, d6] => { results := [.lit (.bool true)], args := [d1, d2, d3, d4, d5, d6] }
  | _ => none }
def boundOwnsRow : OpenClaim := { program := "ytdjkblnocooldaagreat", sum := "08442fc81132e46a4f10c0c88eebf332e89cb1886b63e70a68ce9546e5a08c6e", func := "stackyard/stackyardlaw16.BoundOwns", spec := "boundOwns", unfollowed := true, recurses := true, plainKeys := false, apart := false }
def BoundOwnsSaid : Prop := boundOwnsRow.holds Tryz.pinned (OpenSpec.ofChange boundOwnsSpec)

/-- ITS FALSE NEIGHBOUR: 'it returns false'. Refute it at one input. -/
def boundOwnsWrong : ChangeSpec := { name := "boundOwns", fn := fun _ => fun
  | [d1, d2, d3, d4, d5, d6] => { results := [.lit (.bool false)], args := [d1, d2, d3, d4, d5, d6] }
  | _ => none }
def BoundOwnsWrongFalsely : Prop := boundOwnsRow.holds Tryz.pinned (OpenSpec.ofChange boundOwnsWrong)

/-- 'stackyardlaw17.AuditYards': WHATEVER THE INPUT: true; the input reads as it did. -/
def auditYardsSpec : ChangeSpec := { name := "auditYards", fn := fun _ => fun
  | [d1, d2, d3, d4] => { results := [.lit (.bool true)], args := [d1, d2, d3, d4] }
  | _ => none }
def auditYardsRow : OpenClaim := { program := "ytdjkblnocooldaagreat", sum := "08442fc81132e46a4f10c0c88eebf332e89cb1886b63e70a68ce9546e5a08c6e", func := "stackyard/stackyardlaw17.AuditYards", spec := "auditYards", unfollowed := true, recurses := true, plainKeys := false, apart := false }
def AuditYardsSaid : Prop := auditYardsRow.holds Tryz.pinned (OpenSpec.ofChange auditYardsSpec)

/-- ITS FALSE NEIGHBOUR: 'it returns false'. Refute it at one input. -/
def auditYardsWrong : ChangeSpec := { name := "auditYards", fn := fun _ => fun
  | [d1, d2, d3, d4] => { results := [.lit (.bool false)], args := [d1, d2, d3, d4] }
  | _ => none }
def AuditYardsWrongFalsely : Prop := auditYardsRow.holds Tryz.pinned (OpenSpec.ofChange auditYardsWrong)

/-- 'stackyardlaw17.AuditFinds': WHATEVER THE INPUT: true; the input reads as it did. -/
def auditFindsSpec : ChangeSpec := { name := "auditFinds", fn := fun _ => fun
  | [d1, d2, d3, d4, d5] => { results := [.lit (.bool true)], args := [d1, d2, d3, d4, d5] }
  | _ => none }
def auditFindsRow : OpenClaim := { program := "ytdjkblnocooldaagreat", sum := "08442fc81132e46a4f10c0c88eebf332e89cb1886b63e70a68ce9546e5a08c6e", func := "stackyard/stackyardlaw17.AuditFinds", spec := "auditFinds", unfollowed := true, recurses := true, plainKeys := false, apart := false }
def AuditFindsSaid : Prop := auditFindsRow.holds Tryz.pinned (OpenSpec.ofChange auditFindsSpec)

/-- ITS FALSE NEIGHBOUR: 'it returns false'. Refute it at one input. -/
def auditFindsWrong : ChangeSpec := { name := "auditFinds", fn := fun _ => fun
  | [d1, d2, d3, d4, d5] => { results := [.lit (.bool false)], args := [d1, d2, d3, d4, d5] }
  | _ => none }
def AuditFindsWrongFalsely : Prop := auditFindsRow.holds Tryz.pinned (OpenSpec.ofChange auditFindsWrong)

/-- 'stackyardlaw17.AuditCounts': WHATEVER THE INPUT: true; the input reads as it did. -/
def auditCountsSpec : ChangeSpec := { name := "auditCounts", fn := fun _ => fun
  | [d1, d2, d3, d4] => { results := [.lit (.bool true)], args := [d1, d2, d3, d4] }
  | _ => none }
def auditCountsRow : OpenClaim := { program := "ytdjkblnocooldaagreat", sum := "08442fc81132e46a4f10c0c88eebf332e89cb1886b63e70a68ce9546e5a08c6e", func := "stackyard/stackyardlaw17.AuditCounts", spec := "auditCounts", unfollowed := true, recurses := true, plainKeys := false, apart := false }
def AuditCountsSaid : Prop := auditCountsRow.holds Tryz.pinned (OpenSpec.ofChange auditCountsSpec)

/-- ITS FALSE NEIGHBOUR: 'it returns false'. Refute it at one input. -/
def auditCountsWrong : ChangeSpec := { name := "auditCounts", fn := fun _ => fun
  | [d1, d2, d3, d4] => { results := [.lit (.bool false)], args := [d1, d2, d3, d4] }
  | _ => none }
def AuditCountsWrongFalsely : Prop := auditCountsRow.holds Tryz.pinned (OpenSpec.ofChange auditCountsWrong)

/-- 'stackyardtop.WholeWindow': WHATEVER THE INPUT: true; the input reads as it did. -/
def wholeWindowSpec : ChangeSpec := { name := "wholeWindow", fn := fun _ => fun
  | [d1, d2, d3, d4, d5] => { results := [.lit (.bool true)], args := [d1, d2, d3, d4, d5] }
  | _ => none }
def wholeWindowRow : OpenClaim := { program := "ytdjkblnocooldaagreat", sum := "08442fc81132e46a4f10c0c88eebf332e89cb1886b63e70a68ce9546e5a08c6e", func := "stackyard/stackyardtop.WholeWindow", spec := "wholeWindow", unfollowed := true, recurses := true, plainKeys := false, apart := false }
def WholeWindowSaid : Prop := wholeWindowRow.holds Tryz.pinned (OpenSpec.ofChange wholeWindowSpec)

/-- ITS FALSE NEIGHBOUR: 'it returns false'. Refute it at one input. -/
def wholeWindowWrong : ChangeSpec := { name := "wholeWindow", fn := fun _ => fun
  | [d1, d2, d3, d4, d5] => { results := [.lit (.bool false)], args := [d1, d2, d3, d4, d5] }
  | _ => none }
def WholeWindowWrongFalsely : Prop := wholeWindowRow.holds Tryz.pinned (OpenSpec.ofChange wholeWindowWrong)

/- THE SECOND FORM. 'bulk': how many values and letters a reading holds, each counted each time it is reached (what is shared counts as often as it is met; a slice's spare places count too). A statement '..UptoSaid' is the law's where the arguments, and the package variables that the reading takes, are together of bulk at most 1048576: NARROWER than '..Said'. Prove '..Said' where nothing that the law and all that it calls make is longer than what came in: it says more and counts as full. Else prove '..UptoSaid'. A law counts once. -/
mutual
def uptoBulk {H : Type} : DataW H → Nat
  | .lit (.string bytes) => bytes.length + 1
  | .lit _ => 1
  | .nil => 1
  | .ptr d => uptoBulk d + 1
  | .slice elems spare => uptoBulkAll elems + uptoBulkAll spare + 1
  | .agg parts => uptoBulkAll parts + 1
  | .iface _ d => uptoBulk d + 1
  | .map entries => uptoBulkEntries entries + 1
  | .held _ => 1
def uptoBulkAll {H : Type} : List (DataW H) → Nat
  | [] => 0
  | d :: r => uptoBulk d + uptoBulkAll r
def uptoBulkEntries {H : Type} : List (Lit × DataW H) → Nat
  | [] => 0
  | x :: r => uptoBulkEntry x + uptoBulkEntries r
def uptoBulkEntry {H : Type} : Lit × DataW H → Nat
  | (.string bytes, d) => bytes.length + uptoBulk d + 1
  | (_, d) => uptoBulk d + 1
 end
def uptoSmall : (H : Type) → List (DataW H) → Bool := fun _ ds => decide (uptoBulkAll ds ≤ 1048576)
def OpenSpec.upto (s : _root_.Go.ChangeSpec) : _root_.Go.OpenSpec := { _root_.Go.OpenSpec.ofChange s with cond := some uptoSmall }

/-- 'stackyardlaw13.YardBusy', WHERE WHAT IT READS IS OF BULK AT MOST 1048576: true; the input reads as it did. -/
def yardBusyUptoRow : OpenClaim := { program := "ytdjkblnocooldaagreat", sum := "08442fc81132e46a4f10c0c88eebf332e89cb1886b63e70a68ce9546e5a08c6e", func := "stackyard/stackyardlaw13.YardBusy", spec := "yardBusy", unfollowed := true, recurses := true, plainKeys := false, apart := false, narrowed := true }
def YardBusyUptoSaid : Prop := yardBusyUptoRow.holds Tryz.pinned (OpenSpec.upto yardBusySpec)

/-- 'stackyardlaw13.YardOnes', WHERE WHAT IT READS IS OF BULK AT MOST 1048576: true; the input reads as it did. -/
def yardOnesUptoRow : OpenClaim := { program := "ytdjkblnocooldaagreat", sum := "08442fc81132e46a4f10c0c88eebf332e89cb1886b63e70a68ce9546e5a08c6e", func := "stackyard/stackyardlaw13.YardOnes", spec := "yardOnes", unfollowed := true, recurses := true, plainKeys := false, apart := false, narrowed := true }
def YardOnesUptoSaid : Prop := yardOnesUptoRow.holds Tryz.pinned (OpenSpec.upto yardOnesSpec)

/-- 'stackyardlaw13.YardCuts', WHERE WHAT IT READS IS OF BULK AT MOST 1048576: true; the input reads as it did. -/
def yardCutsUptoRow : OpenClaim := { program := "ytdjkblnocooldaagreat", sum := "08442fc81132e46a4f10c0c88eebf332e89cb1886b63e70a68ce9546e5a08c6e", func := "stackyard/stackyardlaw13.YardCuts", spec := "yardCuts", unfollowed := true, recurses := true, plainKeys := false, apart := false, narrowed := true }
def YardCutsUptoSaid : Prop := yardCutsUptoRow.holds Tryz.pinned (OpenSpec.upto yardCutsSpec)

/-- 'stackyardlaw13.YardMoves', WHERE WHAT IT READS IS OF BULK AT MOST 1048576: true; the input reads as it did. -/
def yardMovesUptoRow : OpenClaim := { program := "ytdjkblnocooldaagreat", sum := "08442fc81132e46a4f10c0c88eebf332e89cb1886b63e70a68ce9546e5a08c6e", func := "stackyard/stackyardlaw13.YardMoves", spec := "yardMoves", unfollowed := true, recurses := true, plainKeys := false, apart := false, narrowed := true }
def YardMovesUptoSaid : Prop := yardMovesUptoRow.holds Tryz.pinned (OpenSpec.upto yardMovesSpec)

/-- 'stackyardlaw13.YardBacks', WHERE WHAT IT READS IS OF BULK AT MOST 1048576: true; the input reads as it did. -/
def yardBacksUptoRow : OpenClaim := { program := "ytdjkblnocooldaagreat", sum := "08442fc81132e46a4f10c0c88eebf332e89cb1886b63e70a68ce9546e5a08c6e", func := "stackyard/stackyardlaw13.YardBacks", spec := "yardBacks", unfollowed := true, recurses := true, plainKeys := false, apart := false, narrowed := true }
def YardBacksUptoSaid : Prop := yardBacksUptoRow.holds Tryz.pinned (OpenSpec.upto yardBacksSpec)

/-- 'stackyardlaw14.HistYards', WHERE WHAT IT READS IS OF BULK AT MOST 1048576: true; the input reads as it did. -/
def histYardsUptoRow : OpenClaim := { program := "ytdjkblnocooldaagreat", sum := "08442fc81132e46a4f10c0c88eebf332e89cb1886b63e70a68ce9546e5a08c6e", func := "stackyard/stackyardlaw14.HistYards", spec := "histYards", unfollowed := true, recurses := true, plainKeys := false, apart := false, narrowed := true }
def HistYardsUptoSaid : Prop := histYardsUptoRow.holds Tryz.pinned (OpenSpec.upto histYardsSpec)

/-- 'stackyardlaw16.BoundWindows', WHERE WHAT IT READS IS OF BULK AT MOST 1048576: true; the input reads as it did. -/
def boundWindowsUptoRow : OpenClaim := { program := "ytdjkblnocooldaagreat", sum := "08442fc81132e46a4f10c0c88eebf332e89cb1886b63e70a68ce9546e5a08c6e", func := "stackyard/stackyardlaw16.BoundWindows", spec := "boundWindows", unfollowed := true, recurses := true, plainKeys := false, apart := false, narrowed := true }
def BoundWindowsUptoSaid : Prop := boundWindowsUptoRow.holds Tryz.pinned (OpenSpec.upto boundWindowsSpec)

/-- 'stackyardlaw16.BoundOwns', WHERE WHAT IT READS IS OF BULK AT MOST 1048576: true; the input reads as it did. -/
def boundOwnsUptoRow : OpenClaim := { program := "ytdjkblnocooldaagreat", sum := "08442fc81132e46a4f10c0c88eebf332e89cb1886b63e70a68ce9546e5a08c6e", func := "stackyard/stackyardlaw16.BoundOwns", spec := "boundOwns", unfollowed := true, recurses := true, plainKeys := false, apart := false, narrowed := true }
def BoundOwnsUptoSaid : Prop := boundOwnsUptoRow.holds Tryz.pinned (OpenSpec.upto boundOwnsSpec)

/-- 'stackyardlaw17.AuditYards', WHERE WHAT IT READS IS OF BULK AT MOST 1048576: true; the input reads as it did. -/
def auditYardsUptoRow : OpenClaim := { program := "ytdjkblnocooldaagreat", sum := "08442fc81132e46a4f10c0c88eebf332e89cb1886b63e70a68ce9546e5a08c6e", func := "stackyard/stackyardlaw17.AuditYards", spec := "auditYards", unfollowed := true, recurses := true, plainKeys := false, apart := false, narrowed := true }
def AuditYardsUptoSaid : Prop := auditYardsUptoRow.holds Tryz.pinned (OpenSpec.upto auditYardsSpec)

/-- 'stackyardlaw17.AuditFinds', WHERE WHAT IT READS IS OF BULK AT MOST 1048576: true; the input reads as it did. -/
def auditFindsUptoRow : OpenClaim := { program := "ytdjkblnocooldaagreat", sum := "08442fc81132e46a4f10c0c88eebf332e89cb1886b63e70a68ce9546e5a08c6e", func := "stackyard/stackyardlaw17.AuditFinds", spec := "auditFinds", unfollowed := true, recurses := true, plainKeys := false, apart := false, narrowed := true }
def AuditFindsUptoSaid : Prop := auditFindsUptoRow.holds Tryz.pinned (OpenSpec.upto auditFindsSpec)

/-- 'stackyardlaw17.AuditCounts', WHERE WHAT IT READS IS OF BULK AT MOST 1048576: true; the input reads as it did. -/
def auditCountsUptoRow : OpenClaim := { program := "ytdjkblnocooldaagreat", sum := "08442fc81132e46a4f10c0c88eebf332e89cb1886b63e70a68ce9546e5a08c6e", func := "stackyard/stackyardlaw17.AuditCounts", spec := "auditCounts", unfollowed := true, recurses := true, plainKeys := false, apart := false, narrowed := true }
def AuditCountsUptoSaid : Prop := auditCountsUptoRow.holds Tryz.pinned (OpenSpec.upto auditCountsSpec)

/-- 'stackyardtop.WholeWindow', WHERE WHAT IT READS IS OF BULK AT MOST 1048576: true; the input reads as it did. -/
def wholeWindowUptoRow : OpenClaim := { program := "ytdjkblnocooldaagreat", sum := "08442fc81132e46a4f10c0c88eebf332e89cb1886b63e70a68ce9546e5a08c6e", func := "stackyard/stackyardtop.WholeWindow", spec := "wholeWindow", unfollowed := true, recurses := true, plainKeys := false, apart := false, narrowed := true }
def WholeWindowUptoSaid : Prop := wholeWindowUptoRow.holds Tryz.pinned (OpenSpec.upto wholeWindowSpec)

end Rows
end Go.Proofs.YtdjkblnocooldaaGreat
