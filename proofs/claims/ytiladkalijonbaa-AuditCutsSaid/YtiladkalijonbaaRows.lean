/-
  No cell of these rows narrows 'for every input' (looked for: loops, veiled, ifaces, maps, wideKeys, modest, calm, conditions, laid).
  DERIVED. THE GIVEN ROWS OF THIS SEAT. 7 by the template 'for every input the law returns true; each argument reads behind the call as it read before'; 0 by the template 'total and deterministic' (their statements: YtiladkalijonbaaTotals.lean).
  GIVEN WITH THE SEED: the statements are not yours to turn. If you find one false, say at which input.
  Laid BY PROGRAM, IN A SANDBOX (cutbox-rows.mjs): the forced cells as the released guide's own fill.sh prints them over the translation 57be33d5b5cea960… (all of the seat's roots in one cut). By AI agents, Wed Nov 11 2026. No macro, syntax, notation, axiom, sorry.
-/
import Derived.Test.YtiladkalijonbaaChecked
import GoSem.Claim
import GoSem.ClaimJoined
import GoSem.ClaimMapViews
import Derived.JoinedTies
import Derived.KernelRfl
namespace Go.Proofs.Ytiladkalijonbaa
/- THE CELL 'sum', in the pinned program and in every row, IS THE sha256 OF THE DUMP (.gsa) THAT YtiladkalijonbaaProg.lean LOADS. Nothing in Lean hashes anything: it is a label: what it is worth is what the hold of that sum in a sandbox is worth. -/
noncomputable def Try.pinned : Pinned := { name := "ytiladkalijonbaa", sum := "57be33d5b5cea960282516c082fbf7b25a0713848ea317ae023f480ec5f138dc", checked := Try.checked }
namespace Rows
def none {H : Type} : Left H := { results := [], args := [] }

/-- 'stackyardlaw18.CodeJoins': WHATEVER THE INPUT: true; the input reads as it did. -/
def codeJoinsSpec : ChangeSpec := { name := "codeJoins", fn := fun _ => fun
  | [d1, d2] => { results := [.lit (.bool true)], args := [d1, d2] }
  | _ => none }
def codeJoinsRow : OpenClaim := { program := "ytiladkalijonbaa", sum := "57be33d5b5cea960282516c082fbf7b25a0713848ea317ae023f480ec5f138dc", func := "stackyard/stackyardlaw18.CodeJoins", spec := "codeJoins", plainKeys := false, apart := false }
def CodeJoinsSaid : Prop := codeJoinsRow.holds Try.pinned (OpenSpec.ofChange codeJoinsSpec)

/-- ITS FALSE NEIGHBOUR: 'it returns false'. Refute it at one input. -/
def codeJoinsWrong : ChangeSpec := { name := "codeJoins", fn := fun _ => fun
  | [d1, d2] => { results := [.lit (.bool false)], args := [d1, d2] }
  | _ => none }
def CodeJoinsWrongFalsely : Prop := codeJoinsRow.holds Try.pinned (OpenSpec.ofChange codeJoinsWrong)

/-- 'stackyardlaw17.AuditRaw': WHATEVER THE INPUT: true; the input reads as it did. -/
def auditRawSpec : ChangeSpec := { name := "auditRaw", fn := fun _ => fun
  | [d1, d2, d3, d4] => { results := [.lit (.bool true)], args := [d1, d2, d3, d4] }
  | _ => none }
def auditRawRow : OpenClaim := { program := "ytiladkalijonbaa", sum := "57be33d5b5cea960282516c082fbf7b25a0713848ea317ae023f480ec5f138dc", func := "stackyard/stackyardlaw17.AuditRaw", spec := "auditRaw", plainKeys := false, apart := false }
def AuditRawSaid : Prop := auditRawRow.holds Try.pinned (OpenSpec.ofChange auditRawSpec)

/-- ITS FALSE NEIGHBOUR: 'it returns false'. Refute it at one input. -/
def auditRawWrong : ChangeSpec := { name := "auditRaw", fn := fun _ => fun
  | [d1, d2, d3, d4] => { results := [.lit (.bool false)], args := [d1, d2, d3, d4] }
  | _ => none }
def AuditRawWrongFalsely : Prop := auditRawRow.holds Try.pinned (OpenSpec.ofChange auditRawWrong)

/-- 'stackyardlaw17.AuditCuts': WHATEVER THE INPUT: true; the input reads as it did. -/
def auditCutsSpec : ChangeSpec := { name := "auditCuts", fn := fun _ => fun
  | [d1, d2, d3, d4, d5] => { results := [.lit (.bool true)], args := [d1, d2, d3, d4, d5] }
  | _ => none }
def auditCutsRow : OpenClaim := { program := "ytiladkalijonbaa", sum := "57be33d5b5cea960282516c082fbf7b25a0713848ea317ae023f480ec5f138dc", func := "stackyard/stackyardlaw17.AuditCuts", spec := "auditCuts", plainKeys := false, apart := false }
def AuditCutsSaid : Prop := auditCutsRow.holds Try.pinned (OpenSpec.ofChange auditCutsSpec)

/-- ITS FALSE NEIGHBOUR: 'it returns false'. Refute it at one input. -/
def auditCutsWrong : ChangeSpec := { name := "auditCuts", fn := fun _ => fun
  | [d1, d2, d3, d4, d5] => { results := [.lit (.bool false)], args := [d1, d2, d3, d4, d5] }
  | _ => none }
def AuditCutsWrongFalsely : Prop := auditCutsRow.holds Try.pinned (OpenSpec.ofChange auditCutsWrong)

/-- 'stackyardlaw18.CodeScripts': WHATEVER THE INPUT: true; the input reads as it did. -/
def codeScriptsSpec : ChangeSpec := { name := "codeScripts", fn := fun _ => fun
  | [d1, d2] => { results := [.lit (.bool true)], args := [d1, d2] }
  | _ => none }
def codeScriptsRow : OpenClaim := { program := "ytiladkalijonbaa", sum := "57be33d5b5cea960282516c082fbf7b25a0713848ea317ae023f480ec5f138dc", func := "stackyard/stackyardlaw18.CodeScripts", spec := "codeScripts", plainKeys := false, apart := false }
def CodeScriptsSaid : Prop := codeScriptsRow.holds Try.pinned (OpenSpec.ofChange codeScriptsSpec)

/-- ITS FALSE NEIGHBOUR: 'it returns false'. Refute it at one input. -/
def codeScriptsWrong : ChangeSpec := { name := "codeScripts", fn := fun _ => fun
  | [d1, d2] => { results := [.lit (.bool false)], args := [d1, d2] }
  | _ => none }
def CodeScriptsWrongFalsely : Prop := codeScriptsRow.holds Try.pinned (OpenSpec.ofChange codeScriptsWrong)

/-- 'stackyardlaw18.CodeReads': WHATEVER THE INPUT: true; the input reads as it did. -/
def codeReadsSpec : ChangeSpec := { name := "codeReads", fn := fun _ => fun
  | [d] => { results := [.lit (.bool true)], args := [d] }
  | _ => none }
def codeReadsRow : OpenClaim := { program := "ytiladkalijonbaa", sum := "57be33d5b5cea960282516c082fbf7b25a0713848ea317ae023f480ec5f138dc", func := "stackyard/stackyardlaw18.CodeReads", spec := "codeReads", plainKeys := false, apart := false }
def CodeReadsSaid : Prop := codeReadsRow.holds Try.pinned (OpenSpec.ofChange codeReadsSpec)

/-- ITS FALSE NEIGHBOUR: 'it returns false'. Refute it at one input. -/
def codeReadsWrong : ChangeSpec := { name := "codeReads", fn := fun _ => fun
  | [d] => { results := [.lit (.bool false)], args := [d] }
  | _ => none }
def CodeReadsWrongFalsely : Prop := codeReadsRow.holds Try.pinned (OpenSpec.ofChange codeReadsWrong)

/-- 'stackyardlaw18.CodeCuts': WHATEVER THE INPUT: true; the input reads as it did. -/
def codeCutsSpec : ChangeSpec := { name := "codeCuts", fn := fun _ => fun
  | [d1, d2] => { results := [.lit (.bool true)], args := [d1, d2] }
  | _ => none }
def codeCutsRow : OpenClaim := { program := "ytiladkalijonbaa", sum := "57be33d5b5cea960282516c082fbf7b25a0713848ea317ae023f480ec5f138dc", func := "stackyard/stackyardlaw18.CodeCuts", spec := "codeCuts", plainKeys := false, apart := false }
def CodeCutsSaid : Prop := codeCutsRow.holds Try.pinned (OpenSpec.ofChange codeCutsSpec)

/-- ITS FALSE NEIGHBOUR: 'it returns false'. Refute it at one input. -/
def codeCutsWrong : ChangeSpec := { name := "codeCuts", fn := fun _ => fun
  | [d1, d2] => { results := [.lit (.bool false)], args := [d1, d2] }
  | _ => none }
def CodeCutsWrongFalsely : Prop := codeCutsRow.holds Try.pinned (OpenSpec.ofChange codeCutsWrong)

/-- 'stackyardlaw18.CodeMany': WHATEVER THE INPUT: true; the input reads as it did. -/
def codeManySpec : ChangeSpec := { name := "codeMany", fn := fun _ => fun
  | [d] => { results := [.lit (.bool true)], args := [d] }
  | _ => none }
def codeManyRow : OpenClaim := { program := "ytiladkalijonbaa", sum := "57be33d5b5cea960282516c082fbf7b25a0713848ea317ae023f480ec5f138dc", func := "stackyard/stackyardlaw18.CodeMany", spec := "codeMany", plainKeys := false, apart := false }
def CodeManySaid : Prop := codeManyRow.holds Try.pinned (OpenSpec.ofChange codeManySpec)

/-- ITS FALSE NEIGHBOUR: 'it returns false'. Refute it at one input. -/
def codeManyWrong : ChangeSpec := { name := "codeMany", fn := fun _ => fun
  | [d] => { results := [.lit (.bool false)], args := [d] }
  | _ => none }
def CodeManyWrongFalsely : Prop := codeManyRow.holds Try.pinned (OpenSpec.ofChange codeManyWrong)

/- THE SECOND FORM. 'bulk': how many values and letters a reading holds, each counted each time it is reached (what is shared counts as often as it is met; a slice's spare places count too). A statement '..UptoSaid' is the law's where the arguments, and the package variables that the reading takes, are together of bulk at most 1048576: NARROWER than '..Said'. Prove '..Said' where nothing that the law and all that it calls make is longer than what came in: it says more and counts as full. Else prove '..UptoSaid'. A law counts once. -/
mutual
def uptoBulk {H : Type} : DataW H → Nat
  | .lit (.string bytes) => bytes.length + 1
  | .lit _ => 1
  | .nil => 1
  | .ptr d => uptoBulk d + 1
  | .slice elems spare => uptoBulkAll elems + uptoBulkAll spare + 1
  | .agg parts => uptoBulkAll parts + 1
  | .iface _ d => uptoBulk d + 1
  | .map entries => uptoBulkEntries entries + 1
  | .held _ => 1
def uptoBulkAll {H : Type} : List (DataW H) → Nat
  | [] => 0
  | d :: r => uptoBulk d + uptoBulkAll r
def uptoBulkEntries {H : Type} : List (Lit × DataW H) → Nat
  | [] => 0
  | x :: r => uptoBulkEntry x + uptoBulkEntries r
def uptoBulkEntry {H : Type} : Lit × DataW H → Nat
  | (.string bytes, d) => bytes.length + uptoBulk d + 1
  | (_, d) => uptoBulk d + 1
 end
def uptoSmall : (H : Type) → List (DataW H) → Bool := fun _ ds => decide (uptoBulkAll ds ≤ 1048576)
def OpenSpec.upto (s : _root_.Go.ChangeSpec) : _root_.Go.OpenSpec := { _root_.Go.OpenSpec.ofChange s with cond := some uptoSmall }

/-- 'stackyardlaw18.CodeJoins', WHERE WHAT IT READS IS OF BULK AT MOST 1048576: true; the input reads as it did. -/
def codeJoinsUptoRow : OpenClaim := { program := "ytiladkalijonbaa", sum := "57be33d5b5cea960282516c082fbf7b25a0713848ea317ae023f480ec5f138dc", func := "stackyard/stackyardlaw18.CodeJoins", spec := "codeJoins", plainKeys := false, apart := false, narrowed := true }
def CodeJoinsUptoSaid : Prop := codeJoinsUptoRow.holds Try.pinned (OpenSpec.upto codeJoinsSpec)

/-- 'stackyardlaw17.AuditRaw', WHERE WHAT IT READS IS OF BULK AT MOST 1048576: true; the input reads as it did. -/
def auditRawUptoRow : OpenClaim := { program := "ytiladkalijonbaa", sum := "57be33d5b5cea960282516c082fbf7b25a0713848ea317ae023f480ec5f138dc", func := "stackyard/stackyardlaw17.AuditRaw", spec := "auditRaw", plainKeys := false, apart := false, narrowed := true }
def AuditRawUptoSaid : Prop := auditRawUptoRow.holds Try.pinned (OpenSpec.upto auditRawSpec)

/-- 'stackyardlaw17.AuditCuts', WHERE WHAT IT READS IS OF BULK AT MOST 1048576: true; the input reads as it did. -/
def auditCutsUptoRow : OpenClaim := { program := "ytiladkalijonbaa", sum := "57be33d5b5cea960282516c082fbf7b25a0713848ea317ae023f480ec5f138dc", func := "stackyard/stackyardlaw17.AuditCuts", spec := "auditCuts", plainKeys := false, apart := false, narrowed := true }
def AuditCutsUptoSaid : Prop := auditCutsUptoRow.holds Try.pinned (OpenSpec.upto auditCutsSpec)

/-- 'stackyardlaw18.CodeScripts', WHERE WHAT IT READS IS OF BULK AT MOST 1048576: true; the input reads as it did. -/
def codeScriptsUptoRow : OpenClaim := { program := "ytiladkalijonbaa", sum := "57be33d5b5cea960282516c082fbf7b25a0713848ea317ae023f480ec5f138dc", func := "stackyard/stackyardlaw18.CodeScripts", spec := "codeScripts", plainKeys := false, apart := false, narrowed := true }
def CodeScriptsUptoSaid : Prop := codeScriptsUptoRow.holds Try.pinned (OpenSpec.upto codeScriptsSpec)

/-- 'stackyardlaw18.CodeReads', WHERE WHAT IT READS IS OF BULK AT MOST 1048576: true; the input reads as it did. -/
def codeReadsUptoRow : OpenClaim := { program := "ytiladkalijonbaa", sum := "57be33d5b5cea960282516c082fbf7b25a0713848ea317ae023f480ec5f138dc", func := "stackyard/stackyardlaw18.CodeReads", spec := "codeReads", plainKeys := false, apart := false, narrowed := true }
def CodeReadsUptoSaid : Prop := codeReadsUptoRow.holds Try.pinned (OpenSpec.upto codeReadsSpec)

/-- 'stackyardlaw18.CodeCuts', WHERE WHAT IT READS IS OF BULK AT MOST 1048576: true; the input reads as it did. -/
def codeCutsUptoRow : OpenClaim := { program := "ytiladkalijonbaa", sum := "57be33d5b5cea960282516c082fbf7b25a0713848ea317ae023f480ec5f138dc", func := "stackyard/stackyardlaw18.CodeCuts", spec := "codeCuts", plainKeys := false, apart := false, narrowed := true }
def CodeCutsUptoSaid : Prop := codeCutsUptoRow.holds Try.pinned (OpenSpec.upto codeCutsSpec)

/-- 'stackyardlaw18.CodeMany', WHERE WHAT IT READS IS OF BULK AT MOST 1048576: true; the input reads as it did. -/
def codeManyUptoRow : OpenClaim := { program := "ytiladkalijonbaa", sum := "57be33d5b5cea960282516c082fbf7b25a0713848ea317ae023f480ec5f138dc", func := "stackyard/stackyardlaw18.CodeMany", spec := "codeMany", plainKeys := false, apart := false, narrowed := true }
def CodeManyUptoSaid : Prop := codeManyUptoRow.holds Try.pinned (OpenSpec.upto codeManySpec)

end Rows
end Go.Proofs.Ytiladkalijonbaa
