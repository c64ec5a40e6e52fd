/-
  No cell of these rows narrows 'for every input' (looked for: loops, veiled, ifaces, maps, wideKeys, modest, calm, conditions, laid).
  DERIVED. THE GIVEN ROWS OF THIS SEAT. 9 by the template 'for every input the law returns true; each argument reads behind the call as it read before'; 0 by the template 'total and deterministic' (their statements: YteminkohgagedaaTotals.lean).
  GIVEN WITH THE SEED: the statements are not yours to turn. If you find one false, say at which input.
  Laid BY PROGRAM, IN A SANDBOX (cutbox-rows.mjs): the forced cells as the released guide's own fill.sh prints them over the translation b49bd7c25172cc59… (all of the seat's roots in one cut). By AI agents, Wed Nov 11 2026. No macro, syntax, notation, axiom, sorry.
-/
import Derived.Test.YteminkohgagedaaChecked
import GoSem.Claim
import GoSem.ClaimJoined
import GoSem.ClaimMapViews
import Derived.JoinedTies
import Derived.KernelRfl
namespace Go.Proofs.Yteminkohgagedaa
/- THE CELL 'sum', in the pinned program and in every row, IS THE sha256 OF THE DUMP (.gsa) THAT YteminkohgagedaaProg.lean LOADS. Nothing in Lean hashes anything: it is a label: what it is worth is what the hold of that sum in a sandbox is worth. -/
noncomputable def Try.pinned : Pinned := { name := "yteminkohgagedaa", sum := "b49bd7c25172cc59c5ef41f0d618ca40e88f96ce3f77df5485e98e75e5273d67", checked := Try.checked }
namespace Rows
def none {H : Type} : Left H := { results := [], args := [] }

/-- 'flittinglaw21.ModelParts': WHATEVER THE INPUT: true; the input reads as it did. -/
def modelPartsSpec : ChangeSpec := { name := "modelParts", fn := fun _ => fun
  | [d1, d2, d3] => { results := [.lit (.bool true)], args := [d1, d2, d3] }
  | _ => none }
def modelPartsRow : OpenClaim := { program := "yteminkohgagedaa", sum := "b49bd7c25172cc59c5ef41f0d618ca40e88f96ce3f77df5485e98e75e5273d67", func := "flitting/flittinglaw21.ModelParts", spec := "modelParts", unfollowed := true, recurses := true, apart := false }
def ModelPartsSaid : Prop := modelPartsRow.holds Try.pinned (OpenSpec.ofChange modelPartsSpec)

/-- ITS FALSE NEIGHBOUR: 'it returns false'. Refute it at one input. -/
def modelPartsWrong : ChangeSpec := { name := "modelParts", fn := fun _ => fun
  | [d1, d2, d3] => { results := [.lit (.bool false)], args := [d1, d2, d3] }
  | _ => none }
def ModelPartsWrongFalsely : Prop := modelPartsRow.holds Try.pinned (OpenSpec.ofChange modelPartsWrong)

/-- 'flittinglaw21.ModelReckons': WHATEVER THE INPUT: true; the input reads as it did. -/
def modelReckonsSpec : ChangeSpec := { name := "modelReckons", fn := fun _ => fun
  | [d1, d2] => { results := [.lit (.bool true)], args := [d1, d2] }
  | _ => none }
def modelReckonsRow : OpenClaim := { program := "yteminkohgagedaa", sum := "b49bd7c25172cc59c5ef41f0d618ca40e88f96ce3f77df5485e98e75e5273d67", func := "flitting/flittinglaw21.ModelReckons", spec := "modelReckons", unfollowed := true, recurses := true, apart := false }
def ModelReckonsSaid : Prop := modelReckonsRow.holds Try.pinned (OpenSpec.ofChange modelReckonsSpec)

/-- ITS FALSE NEIGHBOUR: 'it returns false'. Refute it at one input. -/
def modelReckonsWrong : ChangeSpec := { name := "modelReckons", fn := fun _ => fun
  | [d1, d2] => { results := [.lit (.bool false)], args := [d1, d2] }
  | _ => none }
def ModelReckonsWrongFalsely : Prop := modelReckonsRow.holds Try.pinned (OpenSpec.ofChange modelReckonsWrong)

/-- 'flittinglaw21.ModelLoops': WHATEVER THE INPUT: true; the input reads as it did. -/
def modelLoopsSpec : ChangeSpec := { name := "modelLoops", fn := fun _ => fun
  | [d] => { results := [.lit (.bool true)], args := [d] }
  | _ => none }
def modelLoopsRow : OpenClaim := { program := "yteminkohgagedaa", sum := "b49bd7c25172cc59c5ef41f0d618ca40e88f96ce3f77df5485e98e75e5273d67", func := "flitting/flittinglaw21.ModelLoops", spec := "modelLoops", unfollowed := true, recurses := true, apart := false }
def ModelLoopsSaid : Prop := modelLoopsRow.holds Try.pinned (OpenSpec.ofChange modelLoopsSpec)

/-- ITS FALSE NEIGHBOUR: 'it returns false'. Refute it at one input. -/
def modelLoopsWrong : ChangeSpec := { name := "modelLoops", fn := fun _ => fun
  | [d] => { results := [.lit (.bool false)], args := [d] }
  | _ => none }
def ModelLoopsWrongFalsely : Prop := modelLoopsRow.holds Try.pinned (OpenSpec.ofChange modelLoopsWrong)

/-- 'flittinglaw21.ModelObjects': WHATEVER THE INPUT: true; the input reads as it did. -/
def modelObjectsSpec : ChangeSpec := { name := "modelObjects", fn := fun _ => fun
  | [d1, d2, d3, d4, d5] => { results := [.lit (.bool true)], args := [d1, d2, d3, d4, d5] }
  | _ => none }
def modelObjectsRow : OpenClaim := { program := "yteminkohgagedaa", sum := "b49bd7c25172cc59c5ef41f0d618ca40e88f96ce3f77df5485e98e75e5273d67", func := "flitting/flittinglaw21.ModelObjects", spec := "modelObjects", unfollowed := true, recurses := true, apart := false }
def ModelObjectsSaid : Prop := modelObjectsRow.holds Try.pinned (OpenSpec.ofChange modelObjectsSpec)

/-- ITS FALSE NEIGHBOUR: 'it returns false'. Refute it at one input. -/
def modelObjectsWrong : ChangeSpec := { name := "modelObjects", fn := fun _ => fun
  | [d1, d2, d3, d4, d5] => { results := [.lit (.bool false)], args := [d1, d2, d3, d4, d5] }
  | _ => none }
def ModelObjectsWrongFalsely : Prop := modelObjectsRow.holds Try.pinned (OpenSpec.ofChange modelObjectsWrong)

/-- 'flittinglaw21.ModelErrors': WHATEVER THE INPUT: true; the input reads as it did. -/
def modelErrorsSpec : ChangeSpec := { name := "modelErrors", fn := fun _ => fun
  | [d1, d2, d3, d4] => { results := [.lit (.bool true)], args := [d1, d2, d3, d4] }
  | _ => none }
def modelErrorsRow : OpenClaim := { program := "yteminkohgagedaa", sum := "b49bd7c25172cc59c5ef41f0d618ca40e88f96ce3f77df5485e98e75e5273d67", func := "flitting/flittinglaw21.ModelErrors", spec := "modelErrors", unfollowed := true, recurses := true, apart := false }
def ModelErrorsSaid : Prop := modelErrorsRow.holds Try.pinned (OpenSpec.ofChange modelErrorsSpec)

/-- ITS FALSE NEIGHBOUR: 'it returns false'. Refute it at one input. -/
def modelErrorsWrong : ChangeSpec := { name := "modelErrors", fn := fun _ => fun
  | [d1, d2, d3, d4] => { results := [.lit (.bool false)], args := [d1, d2, d3, d4] }
  | _ => none }
def ModelErrorsWrongFalsely : Prop := modelErrorsRow.holds Try.pinned (OpenSpec.ofChange modelErrorsWrong)

/-- 'flittinglaw21.ModelCommits': WHATEVER THE INPUT: true; the input reads as it did. -/
def modelCommitsSpec : ChangeSpec := { name := "modelCommits", fn := fun _ => fun
  | [d1, d2, d3] => { results := [.lit (.bool true)], args := [d1, d2, d3] }
  | _ => none }
def modelCommitsRow : OpenClaim := { program := "yteminkohgagedaa", sum := "b49bd7c25172cc59c5ef41f0d618ca40e88f96ce3f77df5485e98e75e5273d67", func := "flitting/flittinglaw21.ModelCommits", spec := "modelCommits", unfollowed := true, recurses := true, apart := false }
def ModelCommitsSaid : Prop := modelCommitsRow.holds Try.pinned (OpenSpec.ofChange modelCommitsSpec)

/-- ITS FALSE NEIGHBOUR: 'it returns false'. Refute it at one input. -/
def modelCommitsWrong : ChangeSpec := { name := "modelCommits", fn := fun _ => fun
  | [d1, d2, d3] => { results := [.lit (.bool false)], args := [d1, d2, d3] }
  | _ => none }
def ModelCommitsWrongFalsely : Prop := modelCommitsRow.holds Try.pinned (OpenSpec.ofChange modelCommitsWrong)

/-- 'flittinglaw21.ModelFuel': WHATEVER THE INPUT: true; the input reads as it did. -/
def modelFuelSpec : ChangeSpec := { name := "modelFuel", fn := fun _ => fun
  | [d1, d2, d3] => { results := [.lit (.bool true)], args := [d1, d2, d3] }
  | _ => none }
def modelFuelRow : OpenClaim := { program := "yteminkohgagedaa", sum := "b49bd7c25172cc59c5ef41f0d618ca40e88f96ce3f77df5485e98e75e5273d67", func := "flitting/flittinglaw21.ModelFuel", spec := "modelFuel", unfollowed := true, recurses := true, apart := false }
def ModelFuelSaid : Prop := modelFuelRow.holds Try.pinned (OpenSpec.ofChange modelFuelSpec)

/-- ITS FALSE NEIGHBOUR: 'it returns false'. Refute it at one input. -/
def modelFuelWrong : ChangeSpec := { name := "modelFuel", fn := fun _ => fun
  | [d1, d2, d3] => { results := [.lit (.bool false)], args := [d1, d2, d3] }
  | _ => none }
def ModelFuelWrongFalsely : Prop := modelFuelRow.holds Try.pinned (OpenSpec.ofChange modelFuelWrong)

/-- 'flittinglaw21.ModelShares': WHATEVER THE INPUT: true; the input reads as it did. -/
def modelSharesSpec : ChangeSpec := { name := "modelShares", fn := fun _ => fun
  | [d1, d2] => { results := [.lit (.bool true)], args := [d1, d2] }
  | _ => none }
def modelSharesRow : OpenClaim := { program := "yteminkohgagedaa", sum := "b49bd7c25172cc59c5ef41f0d618ca40e88f96ce3f77df5485e98e75e5273d67", func := "flitting/flittinglaw21.ModelShares", spec := "modelShares", unfollowed := true, recurses := true, apart := false }
def ModelSharesSaid : Prop := modelSharesRow.holds Try.pinned (OpenSpec.ofChange modelSharesSpec)

/-- ITS FALSE NEIGHBOUR: 'it returns false'. Refute it at one input. -/
def modelSharesWrong : ChangeSpec := { name := "modelShares", fn := fun _ => fun
  | [d1, d2] => { results := [.lit (.bool false)], args := [d1, d2] }
  | _ => none }
def ModelSharesWrongFalsely : Prop := modelSharesRow.holds Try.pinned (OpenSpec.ofChange modelSharesWrong)

/-- 'flittinglaw21.ModelPeak': WHATEVER THE INPUT: true; the input reads as it did. -/
def modelPeakSpec : ChangeSpec := { name := "modelPeak", fn := fun _ => fun
  | [d1, d2, d3] => { results := [.lit (.bool true)], args := [d1, d2, d3] }
  | _ => none }
def modelPeakRow : OpenClaim := { program := "yteminkohgagedaa", sum := "b49bd7c25172cc59c5ef41f0d618ca40e88f96ce3f77df5485e98e75e5273d67", func := "flitting/flittinglaw21.ModelPeak", spec := "modelPeak", unfollowed := true, recurses := true, apart := false }
def ModelPeakSaid : Prop := modelPeakRow.holds Try.pinned (OpenSpec.ofChange modelPeakSpec)

/-- ITS FALSE NEIGHBOUR: 'it returns false'. Refute it at one input. -/
def modelPeakWrong : ChangeSpec := { name := "modelPeak", fn := fun _ => fun
  | [d1, d2, d3] => { results := [.lit (.bool false)], args := [d1, d2, d3] }
  | _ => none }
def ModelPeakWrongFalsely : Prop := modelPeakRow.holds Try.pinned (OpenSpec.ofChange modelPeakWrong)

/- THE SECOND FORM. 'bulk': how many values and letters a reading holds, each counted each time it is reached (what is shared counts as often as it is met; a slice's spare places count too). A statement '..UptoSaid' is the law's where the arguments, and the package variables that the reading takes, are together of bulk at most 1048576: NARROWER than '..Said'. Prove '..Said' where nothing that the law and all that it calls make is longer than what came in: it says more and counts as full. Else prove '..UptoSaid'. A law counts once. -/
mutual
def uptoBulk {H : Type} : DataW H → Nat
  | .lit (.string bytes) => bytes.length + 1
  | .lit _ => 1
  | .nil => 1
  | .ptr d => uptoBulk d + 1
  | .slice elems spare => uptoBulkAll elems + uptoBulkAll spare + 1
  | .agg parts => uptoBulkAll parts + 1
  | .iface _ d => uptoBulk d + 1
  | .map entries => uptoBulkEntries entries + 1
  | .held _ => 1
def uptoBulkAll {H : Type} : List (DataW H) → Nat
  | [] => 0
  | d :: r => uptoBulk d + uptoBulkAll r
def uptoBulkEntries {H : Type} : List (Lit × DataW H) → Nat
  | [] => 0
  | x :: r => uptoBulkEntry x + uptoBulkEntries r
def uptoBulkEntry {H : Type} : Lit × DataW H → Nat
  | (.string bytes, d) => bytes.length + uptoBulk d + 1
  | (_, d) => uptoBulk d + 1
 end
def uptoSmall : (H : Type) → List (DataW H) → Bool := fun _ ds => decide (uptoBulkAll ds ≤ 1048576)
def OpenSpec.upto (s : _root_.Go.ChangeSpec) : _root_.Go.OpenSpec := { _root_.Go.OpenSpec.ofChange s with cond := some uptoSmall }

/-- 'flittinglaw21.ModelParts', WHERE WHAT IT READS IS OF BULK AT MOST 1048576: true; the input reads as it did. -/
def modelPartsUptoRow : OpenClaim := { program := "yteminkohgagedaa", sum := "b49bd7c25172cc59c5ef41f0d618ca40e88f96ce3f77df5485e98e75e5273d67", func := "flitting/flittinglaw21.ModelParts", spec := "modelParts", unfollowed := true, recurses := true, apart := false, narrowed := true }
def ModelPartsUptoSaid : Prop := modelPartsUptoRow.holds Try.pinned (OpenSpec.upto modelPartsSpec)

/-- 'flittinglaw21.ModelReckons', WHERE WHAT IT READS IS OF BULK AT MOST 1048576: true; the input reads as it did. -/
def modelReckonsUptoRow : OpenClaim := { program := "yteminkohgagedaa", sum := "b49bd7c25172cc59c5ef41f0d618ca40e88f96ce3f77df5485e98e75e5273d67", func := "flitting/flittinglaw21.ModelReckons", spec := "modelReckons", unfollowed := true, recurses := true, apart := false, narrowed := true }
def ModelReckonsUptoSaid : Prop := modelReckonsUptoRow.holds Try.pinned (OpenSpec.upto modelReckonsSpec)

/-- 'flittinglaw21.ModelLoops', WHERE WHAT IT READS IS OF BULK AT MOST 1048576: true; the input reads as it did. -/
def modelLoopsUptoRow : OpenClaim := { program := "yteminkohgagedaa", sum := "b49bd7c25172cc59c5ef41f0d618ca40e88f96ce3f77df5485e98e75e5273d67", func := "flitting/flittinglaw21.ModelLoops", spec := "modelLoops", unfollowed := true, recurses := true, apart := false, narrowed := true }
def ModelLoopsUptoSaid : Prop := modelLoopsUptoRow.holds Try.pinned (OpenSpec.upto modelLoopsSpec)

/-- 'flittinglaw21.ModelObjects', WHERE WHAT IT READS IS OF BULK AT MOST 1048576: true; the input reads as it did. -/
def modelObjectsUptoRow : OpenClaim := { program := "yteminkohgagedaa", sum := "b49bd7c25172cc59c5ef41f0d618ca40e88f96ce3f77df5485e98e75e5273d67", func := "flitting/flittinglaw21.ModelObjects", spec := "modelObjects", unfollowed := true, recurses := true, apart := false, narrowed := true }
def ModelObjectsUptoSaid : Prop := modelObjectsUptoRow.holds Try.pinned (OpenSpec.upto modelObjectsSpec)

/-- 'flittinglaw21.ModelErrors', WHERE WHAT IT READS IS OF BULK AT MOST 1048576: true; the input reads as it did. -/
def modelErrorsUptoRow : OpenClaim := { program := "yteminkohgagedaa", sum := "b49bd7c25172cc59c5ef41f0d618ca40e88f96ce3f77df5485e98e75e5273d67", func := "flitting/flittinglaw21.ModelErrors", spec := "modelErrors", unfollowed := true, recurses := true, apart := false, narrowed := true }
def ModelErrorsUptoSaid : Prop := modelErrorsUptoRow.holds Try.pinned (OpenSpec.upto modelErrorsSpec)

/-- 'flittinglaw21.ModelCommits', WHERE WHAT IT READS IS OF BULK AT MOST 1048576: true; the input reads as it did. -/
def modelCommitsUptoRow : OpenClaim := { program := "yteminkohgagedaa", sum := "b49bd7c25172cc59c5ef41f0d618ca40e88f96ce3f77df5485e98e75e5273d67", func := "flitting/flittinglaw21.ModelCommits", spec := "modelCommits", unfollowed := true, recurses := true, apart := false, narrowed := true }
def ModelCommitsUptoSaid : Prop := modelCommitsUptoRow.holds Try.pinned (OpenSpec.upto modelCommitsSpec)

/-- 'flittinglaw21.ModelFuel', WHERE WHAT IT READS IS OF BULK AT MOST 1048576: true; the input reads as it did. -/
def modelFuelUptoRow : OpenClaim := { program := "yteminkohgagedaa", sum := "b49bd7c25172cc59c5ef41f0d618ca40e88f96ce3f77df5485e98e75e5273d67", func := "flitting/flittinglaw21.ModelFuel", spec := "modelFuel", unfollowed := true, recurses := true, apart := false, narrowed := true }
def ModelFuelUptoSaid : Prop := modelFuelUptoRow.holds Try.pinned (OpenSpec.upto modelFuelSpec)

/-- 'flittinglaw21.ModelShares', WHERE WHAT IT READS IS OF BULK AT MOST 1048576: true; the input reads as it did. -/
def modelSharesUptoRow : OpenClaim := { program := "yteminkohgagedaa", sum := "b49bd7c25172cc59c5ef41f0d618ca40e88f96ce3f77df5485e98e75e5273d67", func := "flitting/flittinglaw21.ModelShares", spec := "modelShares", unfollowed := true, recurses := true, apart := false, narrowed := true }
def ModelSharesUptoSaid : Prop := modelSharesUptoRow.holds Try.pinned (OpenSpec.upto modelSharesSpec)

/-- 'flittinglaw21.ModelPeak', WHERE WHAT IT READS IS OF BULK AT MOST 1048576: true; the input reads as it did. -/
def modelPeakUptoRow : OpenClaim := { program := "yteminkohgagedaa", sum := "b49bd7c25172cc59c5ef41f0d618ca40e88f96ce3f77df5485e98e75e5273d67", func := "flitting/flittinglaw21.ModelPeak", spec := "modelPeak", unfollowed := true, recurses := true, apart := false, narrowed := true }
def ModelPeakUptoSaid : Prop := modelPeakUptoRow.holds Try.pinned (OpenSpec.upto modelPeakSpec)

end Rows
end Go.Proofs.Yteminkohgagedaa
