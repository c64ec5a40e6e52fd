/- A function's regions by their numbers. -/
import Derived.Test.YtdlapjfcmhkieaaDoorCodeRef
import Derived.Test.YtdlapjfcmhkieaaDoorCodePut
import Derived.Test.YtdlapjfcmhkieaaDoorCodeGet
import Derived.Test.YtdlapjfcmhkieaaDoorCodeText
import Derived.Test.YtdlapjfcmhkieaaDoorCodeAlive
import Derived.Test.YtdlapjfcmhkieaaDoorCodeJoins
namespace Go.Proofs.YtdlapjfcmhkieaaDoor.Ver
open Go.RowKit Go.Proofs.YtdlapjfcmhkieaaDoor.Base
set_option linter.unusedVariables false
set_option linter.unusedSimpArgs false
def regs : Code → Nat → Option Code
  | .region n ops d, k => if n = k then some (.region n ops d) else none
  | .seq a b, k => match regs a k with
    | some c => some c
    | none => regs b k
  | .cond _ a b, k => match regs a k with
    | some c => some c
    | none => regs b k
  | .block _ c, k => regs c k
  | .loop c, k => regs c k
  | .scope c, k => regs c k
  | _, _ => none
/-- What code.Target tells. -/
def TgtIs (tb : Bool) (tv xo xb xc : Int) : Prop := (tb = true ∧ (xo = 5 ∨ xo = 6) ∧ tv = tgt xb xc) ∨ (tb = false ∧ ¬ (xo = 5 ∨ xo = 6) ∧ tv = 0)
theorem tgt_small (b c : Int) (hb : -1099511627776 < b ∧ b < 1099511627776) (hc : -1099511627776 < c ∧ c < 1099511627776) : b + 256 * c = tgt b c := by
  unfold tgt
  rw [IntWalk.wrap64_in (256 * c) (by omega), IntWalk.wrap64_in (b + 256 * c) (by omega)]
end Go.Proofs.YtdlapjfcmhkieaaDoor.Ver
