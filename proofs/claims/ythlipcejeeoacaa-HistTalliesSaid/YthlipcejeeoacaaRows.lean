/-
  No cell of these rows narrows 'for every input' (looked for: loops, veiled, ifaces, maps, wideKeys, modest, calm, conditions, laid).
  DERIVED. THE GIVEN ROWS OF THIS SEAT. 6 by the template 'for every input the law returns true; each argument reads behind the call as it read before'; 0 by the template 'total and deterministic' (their statements: YthlipcejeeoacaaTotals.lean).
  GIVEN WITH THE SEED: the statements are not yours to turn. If you find one false, say at which input.
  Laid BY PROGRAM, IN A SANDBOX (cutbox-rows.mjs): the forced cells as the released guide's own fill.sh prints them over the translation 35626d27f6e2d559… (all of the seat's roots in one cut). By AI agents, Wed Nov 11 2026. No macro, syntax, notation, axiom, sorry.
-/
import Derived.Test.YthlipcejeeoacaaChecked
import GoSem.Claim
import GoSem.ClaimJoined
import GoSem.ClaimMapViews
import Derived.JoinedTies
import Derived.KernelRfl
namespace Go.Proofs.Ythlipcejeeoacaa
/- THE CELL 'sum', in the pinned program and in every row, IS THE sha256 OF THE DUMP (.gsa) THAT YthlipcejeeoacaaProg.lean LOADS. Nothing in Lean hashes anything: it is a label: what it is worth is what the hold of that sum in a sandbox is worth. -/
noncomputable def Try.pinned : Pinned := { name := "ythlipcejeeoacaa", sum := "35626d27f6e2d559be0804c735e746b749be6b6d12ab193ea79ddf399fdc1742", checked := Try.checked }
namespace Rows
def none {H : Type} : Left H := { results := [], args := [] }

/-- 'stackyardlaw14.HistBefore': WHATEVER THE INPUT: true; the input reads as it did. -/
def histBeforeSpec : ChangeSpec := { name := "histBefore", fn := fun _ => fun
  | [d1, d2] => { results := [.lit (.bool true)], args := [d1, d2] }
  | _ => none }
def histBeforeRow : OpenClaim := { program := "ythlipcejeeoacaa", sum := "35626d27f6e2d559be0804c735e746b749be6b6d12ab193ea79ddf399fdc1742", func := "stackyard/stackyardlaw14.HistBefore", spec := "histBefore", apart := false }
def HistBeforeSaid : Prop := histBeforeRow.holds Try.pinned (OpenSpec.ofChange histBeforeSpec)

/-- ITS FALSE NEIGHBOUR: 'it returns false'. Refute it at one input. -/
def histBeforeWrong : ChangeSpec := { name := "histBefore", fn := fun _ => fun
  | [d1, d2] => { results := [.lit (.bool false)], args := [d1, d2] }
  | _ => none }
def HistBeforeWrongFalsely : Prop := histBeforeRow.holds Try.pinned (OpenSpec.ofChange histBeforeWrong)

/-- 'stackyardlaw14.HistMost': WHATEVER THE INPUT: true; the input reads as it did. -/
def histMostSpec : ChangeSpec := { name := "histMost", fn := fun _ => fun
  | [d] => { results := [.lit (.bool true)], args := [d] }
  | _ => none }
def histMostRow : OpenClaim := { program := "ythlipcejeeoacaa", sum := "35626d27f6e2d559be0804c735e746b749be6b6d12ab193ea79ddf399fdc1742", func := "stackyard/stackyardlaw14.HistMost", spec := "histMost", apart := false }
def HistMostSaid : Prop := histMostRow.holds Try.pinned (OpenSpec.ofChange histMostSpec)

/-- ITS FALSE NEIGHBOUR: 'it returns false'. Refute it at one input. -/
def histMostWrong : ChangeSpec := { name := "histMost", fn := fun _ => fun
  | [d] => { results := [.lit (.bool false)], args := [d] }
  | _ => none }
def HistMostWrongFalsely : Prop := histMostRow.holds Try.pinned (OpenSpec.ofChange histMostWrong)

/-- 'stackyardlaw16.BoundGaps': WHATEVER THE INPUT: true; the input reads as it did. -/
def boundGapsSpec : ChangeSpec := { name := "boundGaps", fn := fun _ => fun
  | [d1, d2] => { results := [.lit (.bool true)], args := [d1, d2] }
  | _ => none }
def boundGapsRow : OpenClaim := { program := "ythlipcejeeoacaa", sum := "35626d27f6e2d559be0804c735e746b749be6b6d12ab193ea79ddf399fdc1742", func := "stackyard/stackyardlaw16.BoundGaps", spec := "boundGaps", apart := false }
def BoundGapsSaid : Prop := boundGapsRow.holds Try.pinned (OpenSpec.ofChange boundGapsSpec)

/-- ITS FALSE NEIGHBOUR: 'it returns false'. Refute it at one input. -/
def boundGapsWrong : ChangeSpec := { name := "boundGaps", fn := fun _ => fun
  | [d1, d2] => { results := [.lit (.bool false)], args := [d1, d2] }
  | _ => none }
def BoundGapsWrongFalsely : Prop := boundGapsRow.holds Try.pinned (OpenSpec.ofChange boundGapsWrong)

/-- 'stackyardlaw16.BoundRises': WHATEVER THE INPUT: true; the input reads as it did. -/
def boundRisesSpec : ChangeSpec := { name := "boundRises", fn := fun _ => fun
  | [d1, d2] => { results := [.lit (.bool true)], args := [d1, d2] }
  | _ => none }
def boundRisesRow : OpenClaim := { program := "ythlipcejeeoacaa", sum := "35626d27f6e2d559be0804c735e746b749be6b6d12ab193ea79ddf399fdc1742", func := "stackyard/stackyardlaw16.BoundRises", spec := "boundRises", apart := false }
def BoundRisesSaid : Prop := boundRisesRow.holds Try.pinned (OpenSpec.ofChange boundRisesSpec)

/-- ITS FALSE NEIGHBOUR: 'it returns false'. Refute it at one input. -/
def boundRisesWrong : ChangeSpec := { name := "boundRises", fn := fun _ => fun
  | [d1, d2] => { results := [.lit (.bool false)], args := [d1, d2] }
  | _ => none }
def BoundRisesWrongFalsely : Prop := boundRisesRow.holds Try.pinned (OpenSpec.ofChange boundRisesWrong)

/-- 'stackyardlaw16.BoundSums': WHATEVER THE INPUT: true; the input reads as it did. -/
def boundSumsSpec : ChangeSpec := { name := "boundSums", fn := fun _ => fun
  | [d1, d2] => { results := [.lit (.bool true)], args := [d1, d2] }
  | _ => none }
def boundSumsRow : OpenClaim := { program := "ythlipcejeeoacaa", sum := "35626d27f6e2d559be0804c735e746b749be6b6d12ab193ea79ddf399fdc1742", func := "stackyard/stackyardlaw16.BoundSums", spec := "boundSums", apart := false }
def BoundSumsSaid : Prop := boundSumsRow.holds Try.pinned (OpenSpec.ofChange boundSumsSpec)

/-- ITS FALSE NEIGHBOUR: 'it returns false'. Refute it at one input. -/
def boundSumsWrong : ChangeSpec := { name := "boundSums", fn := fun _ => fun
  | [d1, d2] => { results := [.lit (.bool false)], args := [d1, d2] }
  | _ => none }
def BoundSumsWrongFalsely : Prop := boundSumsRow.holds Try.pinned (OpenSpec.ofChange boundSumsWrong)

/-- 'stackyardlaw14.HistTallies': WHATEVER THE INPUT: true; the input reads as it did. -/
def histTalliesSpec : ChangeSpec := { name := "histTallies", fn := fun _ => fun
  | [d] => { results := [.lit (.bool true)], args := [d] }
  | _ => none }
def histTalliesRow : OpenClaim := { program := "ythlipcejeeoacaa", sum := "35626d27f6e2d559be0804c735e746b749be6b6d12ab193ea79ddf399fdc1742", func := "stackyard/stackyardlaw14.HistTallies", spec := "histTallies", apart := false }
def HistTalliesSaid : Prop := histTalliesRow.holds Try.pinned (OpenSpec.ofChange histTalliesSpec)

/-- ITS FALSE NEIGHBOUR: 'it returns false'. Refute it at one input. -/
def histTalliesWrong : ChangeSpec := { name := "histTallies", fn := fun _ => fun
  | [d] => { results := [.lit (.bool false)], args := [d] }
  | _ => none }
def HistTalliesWrongFalsely : Prop := histTalliesRow.holds Try.pinned (OpenSpec.ofChange histTalliesWrong)

/- THE SECOND FORM. 'bulk': how many values and letters a reading holds, each counted each time it is reached (what is shared counts as often as it is met; a slice's spare places count too). A statement '..UptoSaid' is the law's where the arguments, and the package variables that the reading takes, are together of bulk at most 1048576: NARROWER than '..Said'. Prove '..Said' where nothing that the law and all that it calls make is longer than what came in: it says more and counts as full. Else prove '..UptoSaid'. A law counts once. -/
mutual
def uptoBulk {H : Type} : DataW H → Nat
  | .lit (.string bytes) => bytes.length + 1
  | .lit _ => 1
  | .nil => 1
  | .ptr d => uptoBulk d + 1
  | .slice elems spare => uptoBulkAll elems + uptoBulkAll spare + 1
  | .agg parts => uptoBulkAll parts + 1
  | .iface _ d => uptoBulk d + 1
  | .map entries => uptoBulkEntries entries + 1
  | .held _ => 1
def uptoBulkAll {H : Type} : List (DataW H) → Nat
  | [] => 0
  | d :: r => uptoBulk d + uptoBulkAll r
def uptoBulkEntries {H : Type} : List (Lit × DataW H) → Nat
  | [] => 0
  | x :: r => uptoBulkEntry x + uptoBulkEntries r
def uptoBulkEntry {H : Type} : Lit × DataW H → Nat
  | (.string bytes, d) => bytes.length + uptoBulk d + 1
  | (_, d) => uptoBulk d + 1
 end
def uptoSmall : (H : Type) → List (DataW H) → Bool := fun _ ds => decide (uptoBulkAll ds ≤ 1048576)
def OpenSpec.upto (s : _root_.Go.ChangeSpec) : _root_.Go.OpenSpec := { _root_.Go.OpenSpec.ofChange s with cond := some uptoSmall }

/-- 'stackyardlaw14.HistBefore', WHERE WHAT IT READS IS OF BULK AT MOST 1048576: true; the input reads as it did. -/
def histBeforeUptoRow : OpenClaim := { program := "ythlipcejeeoacaa", sum := "35626d27f6e2d559be0804c735e746b749be6b6d12ab193ea79ddf399fdc1742", func := "stackyard/stackyardlaw14.HistBefore", spec := "histBefore", apart := false, narrowed := true }
def HistBeforeUptoSaid : Prop := histBeforeUptoRow.holds Try.pinned (OpenSpec.upto histBeforeSpec)

/-- 'stackyardlaw14.HistMost', WHERE WHAT IT READS IS OF BULK AT MOST 1048576: true; the input reads as it did. -/
def histMostUptoRow : OpenClaim := { program := "ythlipcejeeoacaa", sum := "35626d27f6e2d559be0804c735e746b749be6b6d12ab193ea79ddf399fdc1742", func := "stackyard/stackyardlaw14.HistMost", spec := "histMost", apart := false, narrowed := true }
def HistMostUptoSaid : Prop := histMostUptoRow.holds Try.pinned (OpenSpec.upto histMostSpec)

/-- 'stackyardlaw16.BoundGaps', WHERE WHAT IT READS IS OF BULK AT MOST 1048576: true; the input reads as it did. -/
def boundGapsUptoRow : OpenClaim := { program := "ythlipcejeeoacaa", sum := "35626d27f6e2d559be0804c735e746b749be6b6d12ab193ea79ddf399fdc1742", func := "stackyard/stackyardlaw16.BoundGaps", spec := "boundGaps", apart := false, narrowed := true }
def BoundGapsUptoSaid : Prop := boundGapsUptoRow.holds Try.pinned (OpenSpec.upto boundGapsSpec)

/-- 'stackyardlaw16.BoundRises', WHERE WHAT IT READS IS OF BULK AT MOST 1048576: true; the input reads as it did. -/
def boundRisesUptoRow : OpenClaim := { program := "ythlipcejeeoacaa", sum := "35626d27f6e2d559be0804c735e746b749be6b6d12ab193ea79ddf399fdc1742", func := "stackyard/stackyardlaw16.BoundRises", spec := "boundRises", apart := false, narrowed := true }
def BoundRisesUptoSaid : Prop := boundRisesUptoRow.holds Try.pinned (OpenSpec.upto boundRisesSpec)

/-- 'stackyardlaw16.BoundSums', WHERE WHAT IT READS IS OF BULK AT MOST 1048576: true; the input reads as it did. -/
def boundSumsUptoRow : OpenClaim := { program := "ythlipcejeeoacaa", sum := "35626d27f6e2d559be0804c735e746b749be6b6d12ab193ea79ddf399fdc1742", func := "stackyard/stackyardlaw16.BoundSums", spec := "boundSums", apart := false, narrowed := true }
def BoundSumsUptoSaid : Prop := boundSumsUptoRow.holds Try.pinned (OpenSpec.upto boundSumsSpec)

/-- 'stackyardlaw14.HistTallies', WHERE WHAT IT READS IS OF BULK AT MOST 1048576: true; the input reads as it did. -/
def histTalliesUptoRow : OpenClaim := { program := "ythlipcejeeoacaa", sum := "35626d27f6e2d559be0804c735e746b749be6b6d12ab193ea79ddf399fdc1742", func := "stackyard/stackyardlaw14.HistTallies", spec := "histTallies", apart := false, narrowed := true }
def HistTalliesUptoSaid : Prop := histTalliesUptoRow.holds Try.pinned (OpenSpec.upto histTalliesSpec)

end Rows
end Go.Proofs.Ythlipcejeeoacaa
