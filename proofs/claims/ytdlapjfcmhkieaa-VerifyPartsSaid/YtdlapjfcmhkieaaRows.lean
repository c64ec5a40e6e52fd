/-
  No cell of these rows narrows 'for every input' (looked for: loops, veiled, ifaces, maps, wideKeys, modest, calm, conditions, laid).
  DERIVED. THE GIVEN ROWS OF THIS SEAT. 6 by the template 'for every input the law returns true; each argument reads behind the call as it read before'; 0 by the template 'total and deterministic' (their statements: YtdlapjfcmhkieaaTotals.lean).
  GIVEN WITH THE SEED: the statements are not yours to turn. If you find one false, say at which input.
  Laid BY PROGRAM, IN A SANDBOX (cutbox-rows.mjs): the forced cells as the released guide's own fill.sh prints them over the translation 8f522ea4bf8913ca… (all of the seat's roots in one cut). By AI agents, Wed Nov 11 2026. No macro, syntax, notation, axiom, sorry.
-/
import Derived.Test.YtdlapjfcmhkieaaChecked
import GoSem.Claim
import GoSem.ClaimJoined
import GoSem.ClaimMapViews
import Derived.JoinedTies
import Derived.KernelRfl
namespace Go.Proofs.Ytdlapjfcmhkieaa
/- THE CELL 'sum', in the pinned program and in every row, IS THE sha256 OF THE DUMP (.gsa) THAT YtdlapjfcmhkieaaProg.lean LOADS. Nothing in Lean hashes anything: it is a label: what it is worth is what the hold of that sum in a sandbox is worth. -/
noncomputable def Try.pinned : Pinned := { name := "ytdlapjfcmhkieaa", sum := "8f522ea4bf8913caa7cb0365defe8dc6ec801b2594997347b72f00bfaecef932", checked := Try.checked }
namespace Rows
def none {H : Type} : Left H := { results := [], args := [] }

/-- 'flittinglaw10.ObjectSizes': WHATEVER THE INPUT: true; the input reads as it did. -/
def objectSizesSpec : ChangeSpec := { name := "objectSizes", fn := fun _ => fun
  | [d1, d2, d3, d4] => { results := [.lit (.bool true)], args := [d1, d2, d3, d4] }
  | _ => none }
def objectSizesRow : OpenClaim := { program := "ytdlapjfcmhkieaa", sum := "8f522ea4bf8913caa7cb0365defe8dc6ec801b2594997347b72f00bfaecef932", func := "flitting/flittinglaw10.ObjectSizes", spec := "objectSizes", apart := false }
def ObjectSizesSaid : Prop := objectSizesRow.holds Try.pinned (OpenSpec.ofChange objectSizesSpec)

/-- ITS FALSE NEIGHBOUR: 'it returns false'. Refute it at one input. -/
def objectSizesWrong : ChangeSpec := { name := "objectSizes", fn := fun _ => fun
  | [d1, d2, d3, d4] => { results := [.lit (.bool false)], args := [d1, d2, d3, d4] }
  | _ => none }
def ObjectSizesWrongFalsely : Prop := objectSizesRow.holds Try.pinned (OpenSpec.ofChange objectSizesWrong)

/-- 'flittinglaw10.ObjectKinds': WHATEVER THE INPUT: true; the input reads as it did. -/
def objectKindsSpec : ChangeSpec := { name := "objectKinds", fn := fun _ => fun
  | [d] => { results := [.lit (.bool true)], args := [d] }
  | _ => none }
def objectKindsRow : OpenClaim := { program := "ytdlapjfcmhkieaa", sum := "8f522ea4bf8913caa7cb0365defe8dc6ec801b2594997347b72f00bfaecef932", func := "flitting/flittinglaw10.ObjectKinds", spec := "objectKinds", apart := false }
def ObjectKindsSaid : Prop := objectKindsRow.holds Try.pinned (OpenSpec.ofChange objectKindsSpec)

/-- ITS FALSE NEIGHBOUR: 'it returns false'. Refute it at one input. -/
def objectKindsWrong : ChangeSpec := { name := "objectKinds", fn := fun _ => fun
  | [d] => { results := [.lit (.bool false)], args := [d] }
  | _ => none }
def ObjectKindsWrongFalsely : Prop := objectKindsRow.holds Try.pinned (OpenSpec.ofChange objectKindsWrong)

/-- 'flittinglaw10.ObjectTells': WHATEVER THE INPUT: true; the input reads as it did. -/
def objectTellsSpec : ChangeSpec := { name := "objectTells", fn := fun _ => fun
  | [d1, d2, d3, d4] => { results := [.lit (.bool true)], args := [d1, d2, d3, d4] }
  | _ => none }
def objectTellsRow : OpenClaim := { program := "ytdlapjfcmhkieaa", sum := "8f522ea4bf8913caa7cb0365defe8dc6ec801b2594997347b72f00bfaecef932", func := "flitting/flittinglaw10.ObjectTells", spec := "objectTells", apart := false }
def ObjectTellsSaid : Prop := objectTellsRow.holds Try.pinned (OpenSpec.ofChange objectTellsSpec)

/-- ITS FALSE NEIGHBOUR: 'it returns false'. Refute it at one input. -/
def objectTellsWrong : ChangeSpec := { name := "objectTells", fn := fun _ => fun
  | [d1, d2, d3, d4] => { results := [.lit (.bool false)], args := [d1, d2, d3, d4] }
  | _ => none }
def ObjectTellsWrongFalsely : Prop := objectTellsRow.holds Try.pinned (OpenSpec.ofChange objectTellsWrong)

/-- 'flittinglaw20.VerifyTells': WHATEVER THE INPUT: true; the input reads as it did. -/
def verifyTellsSpec : ChangeSpec := { name := "verifyTells", fn := fun _ => fun
  | [d1, d2] => { results := [.lit (.bool true)], args := [d1, d2] }
  | _ => none }
def verifyTellsRow : OpenClaim := { program := "ytdlapjfcmhkieaa", sum := "8f522ea4bf8913caa7cb0365defe8dc6ec801b2594997347b72f00bfaecef932", func := "flitting/flittinglaw20.VerifyTells", spec := "verifyTells", apart := false }
def VerifyTellsSaid : Prop := verifyTellsRow.holds Try.pinned (OpenSpec.ofChange verifyTellsSpec)

/-- ITS FALSE NEIGHBOUR: 'it returns false'. Refute it at one input. -/
def verifyTellsWrong : ChangeSpec := { name := "verifyTells", fn := fun _ => fun
  | [d1, d2] => { results := [.lit (.bool false)], args := [d1, d2] }
  | _ => none }
def VerifyTellsWrongFalsely : Prop := verifyTellsRow.holds Try.pinned (OpenSpec.ofChange verifyTellsWrong)

/-- 'flittinglaw20.VerifyParts': WHATEVER THE INPUT: true; the input reads as it did. -/
def verifyPartsSpec : ChangeSpec := { name := "verifyParts", fn := fun _ => fun
  | [d1, d2] => { results := [.lit (.bool true)], args := [d1, d2] }
  | _ => none }
def verifyPartsRow : OpenClaim := { program := "ytdlapjfcmhkieaa", sum := "8f522ea4bf8913caa7cb0365defe8dc6ec801b2594997347b72f00bfaecef932", func := "flitting/flittinglaw20.VerifyParts", spec := "verifyParts", apart := false }
def VerifyPartsSaid : Prop := verifyPartsRow.holds Try.pinned (OpenSpec.ofChange verifyPartsSpec)

/-- ITS FALSE NEIGHBOUR: 'it returns false'. Refute it at one input. -/
def verifyPartsWrong : ChangeSpec := { name := "verifyParts", fn := fun _ => fun
  | [d1, d2] => { results := [.lit (.bool false)], args := [d1, d2] }
  | _ => none }
def VerifyPartsWrongFalsely : Prop := verifyPartsRow.holds Try.pinned (OpenSpec.ofChange verifyPartsWrong)

/-- 'flittinglaw20.VerifyEdges': WHATEVER THE INPUT: true; the input reads as it did. -/
def verifyEdgesSpec : ChangeSpec := { name := "verifyEdges", fn := fun _ => fun
  | [d1, d2] => { results := [.lit (.bool true)], args := [d1, d2] }
  | _ => none }
def verifyEdgesRow : OpenClaim := { program := "ytdlapjfcmhkieaa", sum := "8f522ea4bf8913caa7cb0365defe8dc6ec801b2594997347b72f00bfaecef932", func := "flitting/flittinglaw20.VerifyEdges", spec := "verifyEdges", apart := false }
def VerifyEdgesSaid : Prop := verifyEdgesRow.holds Try.pinned (OpenSpec.ofChange verifyEdgesSpec)

/-- ITS FALSE NEIGHBOUR: 'it returns false'. Refute it at one input. -/
def verifyEdgesWrong : ChangeSpec := { name := "verifyEdges", fn := fun _ => fun
  | [d1, d2] => { results := [.lit (.bool false)], args := [d1, d2] }
  | _ => none }
def VerifyEdgesWrongFalsely : Prop := verifyEdgesRow.holds Try.pinned (OpenSpec.ofChange verifyEdgesWrong)

/- THE SECOND FORM. 'bulk': how many values and letters a reading holds, each counted each time it is reached (what is shared counts as often as it is met; a slice's spare places count too). A statement '..UptoSaid' is the law's where the arguments, and the package variables that the reading takes, are together of bulk at most 1048576: NARROWER than '..Said'. Prove '..Said' where nothing that the law and all that it calls make is longer than what came in: it says more and counts as full. Else prove '..UptoSaid'. A law counts once. -/
mutual
def uptoBulk {H : Type} : DataW H → Nat
  | .lit (.string bytes) => bytes.length + 1
  | .lit _ => 1
  | .nil => 1
  | .ptr d => uptoBulk d + 1
  | .slice elems spare => uptoBulkAll elems + uptoBulkAll spare + 1
  | .agg parts => uptoBulkAll parts + 1
  | .iface _ d => uptoBulk d + 1
  | .map entries => uptoBulkEntries entries + 1
  | .held _ => 1
def uptoBulkAll {H : Type} : List (DataW H) → Nat
  | [] => 0
  | d :: r => uptoBulk d + uptoBulkAll r
def uptoBulkEntries {H : Type} : List (Lit × DataW H) → Nat
  | [] => 0
  | x :: r => uptoBulkEntry x + uptoBulkEntries r
def uptoBulkEntry {H : Type} : Lit × DataW H → Nat
  | (.string bytes, d) => bytes.length + uptoBulk d + 1
  | (_, d) => uptoBulk d + 1
 end
def uptoSmall : (H : Type) → List (DataW H) → Bool := fun _ ds => decide (uptoBulkAll ds ≤ 1048576)
def OpenSpec.upto (s : _root_.Go.ChangeSpec) : _root_.Go.OpenSpec := { _root_.Go.OpenSpec.ofChange s with cond := some uptoSmall }

/-- 'flittinglaw10.ObjectSizes', WHERE WHAT IT READS IS OF BULK AT MOST 1048576: true; the input reads as it did. -/
def objectSizesUptoRow : OpenClaim := { program := "ytdlapjfcmhkieaa", sum := "8f522ea4bf8913caa7cb0365defe8dc6ec801b2594997347b72f00bfaecef932", func := "flitting/flittinglaw10.ObjectSizes", spec := "objectSizes", apart := false, narrowed := true }
def ObjectSizesUptoSaid : Prop := objectSizesUptoRow.holds Try.pinned (OpenSpec.upto objectSizesSpec)

/-- 'flittinglaw10.ObjectKinds', WHERE WHAT IT READS IS OF BULK AT MOST 1048576: true; the input reads as it did. -/
def objectKindsUptoRow : OpenClaim := { program := "ytdlapjfcmhkieaa", sum := "8f522ea4bf8913caa7cb0365defe8dc6ec801b2594997347b72f00bfaecef932", func := "flitting/flittinglaw10.ObjectKinds", spec := "objectKinds", apart := false, narrowed := true }
def ObjectKindsUptoSaid : Prop := objectKindsUptoRow.holds Try.pinned (OpenSpec.upto objectKindsSpec)

/-- 'flittinglaw10.ObjectTells', WHERE WHAT IT READS IS OF BULK AT MOST 1048576: true; the input reads as it did. -/
def objectTellsUptoRow : OpenClaim := { program := "ytdlapjfcmhkieaa", sum := "8f522ea4bf8913caa7cb0365defe8dc6ec801b2594997347b72f00bfaecef932", func := "flitting/flittinglaw10.ObjectTells", spec := "objectTells", apart := false, narrowed := true }
def ObjectTellsUptoSaid : Prop := objectTellsUptoRow.holds Try.pinned (OpenSpec.upto objectTellsSpec)

/-- 'flittinglaw20.VerifyTells', WHERE WHAT IT READS IS OF BULK AT MOST 1048576: true; the input reads as it did. -/
def verifyTellsUptoRow : OpenClaim := { program := "ytdlapjfcmhkieaa", sum := "8f522ea4bf8913caa7cb0365defe8dc6ec801b2594997347b72f00bfaecef932", func := "flitting/flittinglaw20.VerifyTells", spec := "verifyTells", apart := false, narrowed := true }
def VerifyTellsUptoSaid : Prop := verifyTellsUptoRow.holds Try.pinned (OpenSpec.upto verifyTellsSpec)

/-- 'flittinglaw20.VerifyParts', WHERE WHAT IT READS IS OF BULK AT MOST 1048576: true; the input reads as it did. -/
def verifyPartsUptoRow : OpenClaim := { program := "ytdlapjfcmhkieaa", sum := "8f522ea4bf8913caa7cb0365defe8dc6ec801b2594997347b72f00bfaecef932", func := "flitting/flittinglaw20.VerifyParts", spec := "verifyParts", apart := false, narrowed := true }
def VerifyPartsUptoSaid : Prop := verifyPartsUptoRow.holds Try.pinned (OpenSpec.upto verifyPartsSpec)

/-- 'flittinglaw20.VerifyEdges', WHERE WHAT IT READS IS OF BULK AT MOST 1048576: true; the input reads as it did. -/
def verifyEdgesUptoRow : OpenClaim := { program := "ytdlapjfcmhkieaa", sum := "8f522ea4bf8913caa7cb0365defe8dc6ec801b2594997347b72f00bfaecef932", func := "flitting/flittinglaw20.VerifyEdges", spec := "verifyEdges", apart := false, narrowed := true }
def VerifyEdgesUptoSaid : Prop := verifyEdgesUptoRow.holds Try.pinned (OpenSpec.upto verifyEdgesSpec)

end Rows
end Go.Proofs.Ytdlapjfcmhkieaa
