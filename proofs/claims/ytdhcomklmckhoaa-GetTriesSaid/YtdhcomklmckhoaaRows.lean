/-
  No cell of these rows narrows 'for every input' (looked for: loops, veiled, ifaces, maps, wideKeys, modest, calm, conditions, laid).
  DERIVED. THE GIVEN ROWS OF THIS SEAT. 4 by the template 'for every input the law returns true; each argument reads behind the call as it read before'; 0 by the template 'total and deterministic' (their statements: YtdhcomklmckhoaaTotals.lean).
  GIVEN WITH THE SEED: the statements are not yours to turn. If you find one false, say at which input.
  Laid BY PROGRAM, IN A SANDBOX (cutbox-rows.mjs): the forced cells as the released guide's own fill.sh prints them over the translation 12db8264a3410c9a… (all of the seat's roots in one cut). By AI agents, Wed Nov 11 2026. No macro, syntax, notation, axiom, sorry.
-/
import Derived.Test.YtdhcomklmckhoaaChecked
import GoSem.Claim
import GoSem.ClaimJoined
import GoSem.ClaimMapViews
import Derived.JoinedTies
import Derived.KernelRfl
namespace Go.Proofs.Ytdhcomklmckhoaa
/- THE CELL 'sum', in the pinned program and in every row, IS THE sha256 OF THE DUMP (.gsa) THAT YtdhcomklmckhoaaProg.lean LOADS. Nothing in Lean hashes anything: it is a label: what it is worth is what the hold of that sum in a sandbox is worth. -/
noncomputable def Try.pinned : Pinned := { name := "ytdhcomklmckhoaa", sum := "12db8264a3410c9aa8794d97a922acca03402e8f1215972af46527be3695d605", checked := Try.checked }
namespace Rows
def none {H : Type} : Left H := { results := [], args := [] }

/-- 'stackyardlaw11.GetRaces': WHATEVER THE INPUT: true; the input reads as it did. -/
def getRacesSpec : ChangeSpec := { name := "getRaces", fn := fun _ => fun
  | [d1, d2, d3, d4, d5] => { results := [.lit (.bool true)], args := [d1, d2, d3, d4, d5] }
  | _ => none }
def getRacesRow : OpenClaim := { program := "ytdhcomklmckhoaa", sum := "12db8264a3410c9aa8794d97a922acca03402e8f1215972af46527be3695d605", func := "stackyard/stackyardlaw11.GetRaces", spec := "getRaces", unfollowed := true, recurses := true, apart := false }
def GetRacesSaid : Prop := getRacesRow.holds Try.pinned (OpenSpec.ofChange getRacesSpec)

/-- ITS FALSE NEIGHBOUR: 'it returns false'. Refute it at one input. -/
def getRacesWrong : ChangeSpec := { name := "getRaces", fn := fun _ => fun
  | [d1, d2, d3, d4, d5] => { results := [.lit (.bool false)], args := [d1, d2, d3, d4, d5] }
  | _ => none }
def GetRacesWrongFalsely : Prop := getRacesRow.holds Try.pinned (OpenSpec.ofChange getRacesWrong)

/-- 'stackyardlaw11.GetTries': WHATEVER THE INPUT: true; the input reads as it did. -/
def getTriesSpec : ChangeSpec := { name := "getTries", fn := fun _ => fun
  | [d1, d2, d3, d4, d5, d6] => { results := [.lit (.bool true)], args := [d1, d2, d3, d4, d5, d6] }
  | _ => none }
def getTriesRow : OpenClaim := { program := "ytdhcomklmckhoaa", sum := "12db8264a3410c9aa8794d97a922acca03402e8f1215972af46527be3695d605", func := "stackyard/stackyardlaw11.GetTries", spec := "getTries", unfollowed := true, recurses := true, apart := false }
def GetTriesSaid : Prop := getTriesRow.holds Try.pinned (OpenSpec.ofChange getTriesSpec)

/-- ITS FALSE NEIGHBOUR: 'it returns false'. Refute it at one input. -/
def getTriesWrong : ChangeSpec := { name := "getTries", fn := fun _ => fun
  | [d1, d2, d3, d4, d5, d6] => { results := [.lit (.bool false)], args := [d1, d2, d3, d4, d5, d6] }
  | _ => none }
def GetTriesWrongFalsely : Prop := getTriesRow.holds Try.pinned (OpenSpec.ofChange getTriesWrong)

/-- 'stackyardlaw11.GetSteps': WHATEVER THE INPUT: true; the input reads as it did. -/
def getStepsSpec : ChangeSpec := { name := "getSteps", fn := fun _ => fun
  | [d1, d2, d3, d4, d5, d6, d7] => { results := [.lit (.bool true)], args := [d1, d2, d3, d4, d5, d6, d7] }
  | _ => none }
def getStepsRow : OpenClaim := { program := "ytdhcomklmckhoaa", sum := "12db8264a3410c9aa8794d97a922acca03402e8f1215972af46527be3695d605", func := "stackyard/stackyardlaw11.GetSteps", spec := "getSteps", unfollowed := true, recurses := true, apart := false }
def GetStepsSaid : Prop := getStepsRow.holds Try.pinned (OpenSpec.ofChange getStepsSpec)

/-- ITS FALSE NEIGHBOUR: 'it returns false'. Refute it at one input. -/
def getStepsWrong : ChangeSpec := { name := "getSteps", fn := fun _ => fun
  | [d1, d2, d3, d4, d5, d6, d7] => { results := [.lit (.bool false)], args := [d1, d2, d3, d4, d5, d6, d7] }
  | _ => none }
def GetStepsWrongFalsely : Prop := getStepsRow.holds Try.pinned (OpenSpec.ofChange getStepsWrong)

/-- 'stackyardlaw12.TaskRests': WHATEVER THE INPUT: true; the input reads as it did. -/
def taskRestsSpec : ChangeSpec := { name := "taskRests", fn := fun _ => fun
  | [d1, d2, d3, d4, d5, d6, d7] => { results := [.lit (.bool true)], args := [d1, d2, d3, d4, d5, d6, d7] }
  | _ => none }
def taskRestsRow : OpenClaim := { program := "ytdhcomklmckhoaa", sum := "12db8264a3410c9aa8794d97a922acca03402e8f1215972af46527be3695d605", func := "stackyard/stackyardlaw12.TaskRests", spec := "taskRests", unfollowed := true, recurses := true, apart := false }
def TaskRestsSaid : Prop := taskRestsRow.holds Try.pinned (OpenSpec.ofChange taskRestsSpec)

/-- ITS FALSE NEIGHBOUR: 'it returns false'. Refute it at one input. -/
def taskRestsWrong : ChangeSpec := { name := "taskRests", fn := fun _ => fun
  | [d1, d2, d3, d4, d5, d6, d7] => { results := [.lit (.bool false)], args := [d1, d2, d3, d4, d5, d6, d7] }
  | _ => none }
def TaskRestsWrongFalsely : Prop := taskRestsRow.holds Try.pinned (OpenSpec.ofChange taskRestsWrong)

/- THE SECOND FORM. 'bulk': how many values and letters a reading holds, each counted each time it is reached (what is shared counts as often as it is met; a slice's spare places count too). A statement '..UptoSaid' is the law's where the arguments, and the package variables that the reading takes, are together of bulk at most 1048576: NARROWER than '..Said'. Prove '..Said' where nothing that the law and all that it calls make is longer than what came in: it says more and counts as full. Else prove '..UptoSaid'. A law counts once. -/
mutual
def uptoBulk {H : Type} : DataW H → Nat
  | .lit (.string bytes) => bytes.length + 1
  | .lit _ => 1
  | .nil => 1
  | .ptr d => uptoBulk d + 1
  | .slice elems spare => uptoBulkAll elems + uptoBulkAll spare + 1
  | .agg parts => uptoBulkAll parts + 1
  | .iface _ d => uptoBulk d + 1
  | .map entries => uptoBulkEntries entries + 1
  | .held _ => 1
def uptoBulkAll {H : Type} : List (DataW H) → Nat
  | [] => 0
  | d :: r => uptoBulk d + uptoBulkAll r
def uptoBulkEntries {H : Type} : List (Lit × DataW H) → Nat
  | [] => 0
  | x :: r => uptoBulkEntry x + uptoBulkEntries r
def uptoBulkEntry {H : Type} : Lit × DataW H → Nat
  | (.string bytes, d) => bytes.length + uptoBulk d + 1
  | (_, d) => uptoBulk d + 1
 end
def uptoSmall : (H : Type) → List (DataW H) → Bool := fun _ ds => decide (uptoBulkAll ds ≤ 1048576)
def OpenSpec.upto (s : _root_.Go.ChangeSpec) : _root_.Go.OpenSpec := { _root_.Go.OpenSpec.ofChange s with cond := some uptoSmall }

/-- 'stackyardlaw11.GetRaces', WHERE WHAT IT READS IS OF BULK AT MOST 1048576: true; the input reads as it did. -/
def getRacesUptoRow : OpenClaim := { program := "ytdhcomklmckhoaa", sum := "12db8264a3410c9aa8794d97a922acca03402e8f1215972af46527be3695d605", func := "stackyard/stackyardlaw11.GetRaces", spec := "getRaces", unfollowed := true, recurses := true, apart := false, narrowed := true }
def GetRacesUptoSaid : Prop := getRacesUptoRow.holds Try.pinned (OpenSpec.upto getRacesSpec)

/-- 'stackyardlaw11.GetTries', WHERE WHAT IT READS IS OF BULK AT MOST 1048576: true; the input reads as it did. -/
def getTriesUptoRow : OpenClaim := { program := "ytdhcomklmckhoaa", sum := "12db8264a3410c9aa8794d97a922acca03402e8f1215972af46527be3695d605", func := "stackyard/stackyardlaw11.GetTries", spec := "getTries", unfollowed := true, recurses := true, apart := false, narrowed := true }
def GetTriesUptoSaid : Prop := getTriesUptoRow.holds Try.pinned (OpenSpec.upto getTriesSpec)

/-- 'stackyardlaw11.GetSteps', WHERE WHAT IT READS IS OF BULK AT MOST 1048576: true; the input reads as it did. -/
def getStepsUptoRow : OpenClaim := { program := "ytdhcomklmckhoaa", sum := "12db8264a3410c9aa8794d97a922acca03402e8f1215972af46527be3695d605", func := "stackyard/stackyardlaw11.GetSteps", spec := "getSteps", unfollowed := true, recurses := true, apart := false, narrowed := true }
def GetStepsUptoSaid : Prop := getStepsUptoRow.holds Try.pinned (OpenSpec.upto getStepsSpec)

/-- 'stackyardlaw12.TaskRests', WHERE WHAT IT READS IS OF BULK AT MOST 1048576: true; the input reads as it did. -/
def taskRestsUptoRow : OpenClaim := { program := "ytdhcomklmckhoaa", sum := "12db8264a3410c9aa8794d97a922acca03402e8f1215972af46527be3695d605", func := "stackyard/stackyardlaw12.TaskRests", spec := "taskRests", unfollowed := true, recurses := true, apart := false, narrowed := true }
def TaskRestsUptoSaid : Prop := taskRestsUptoRow.holds Try.pinned (OpenSpec.upto taskRestsSpec)

end Rows
end Go.Proofs.Ytdhcomklmckhoaa
