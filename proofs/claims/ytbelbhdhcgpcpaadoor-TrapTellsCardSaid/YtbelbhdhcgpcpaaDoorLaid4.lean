/- What the rows of this seat take for granted of the library's tables, opened: the powers of ten are laid. Printed by gen_door.py, a program of this session. -/
import Derived.Test.YtbelbhdhcgpcpaaDoorRows
import Derived.Test.YtbelbhdhcgpcpaaDoorTrapTells
import Derived.Test.YtbelbhdhcgpcpaaDoorStrOpen
import Derived.LaidMore
import Derived.Stop.Joined
namespace Go.Proofs.YtbelbhdhcgpcpaaDoor.Laid
open Go.ChangeShapes Go.WideShapes Go.ChangeAt Go.RowKit
set_option linter.unusedVariables false
def list : List (String × DataW Unit) := [("math/bits.deBruijn32tab", Rows.laid_math_bits_deBruijn32tab), ("math/bits.deBruijn64tab", Rows.laid_math_bits_deBruijn64tab), ("internal/strconv.uint64pow10", Rows.laid_internal_strconv_uint64pow10), ("errors.errorType", Rows.laid_errors_errorType)]
theorem door_met (os : Os) (args : Array Value) : laidMetH Tryd.prog list ((World.doorLaid Tryd.prog 31 os).forCall (fun _ _ => 0) ⟨#[], args, []⟩).memory :=
  laidMetH_of_parts3 (fuel := 8) (laidMet_of_run' 8 (by kernel_rfl) (by kernel_rfl)) (by kernel_rfl) (by kernel_rfl)
theorem et : Tryd.prog.globalNamed "errors.errorType" = some 0 := by kernel_rfl
theorem rt : (Tryd.prog.cutTypes.find? (·.1 == "internal/reflectlite.rtype")).map (·.2) = some 152 := by kernel_rfl
theorem oneRow : ((List.range 211).filter fun t => Tryd.prog.rowNamed t [101, 114, 114, 111, 114]) = [41] := by kernel_rfl
theorem size : Tryd.prog.types.size = 211 := by kernel_rfl
theorem gPow : Tryd.prog.globalNamed "internal/strconv.uint64pow10" = some 1 := by kernel_rfl
theorem tPow : (Tryd.prog.globals[1]?).map (·.type) = some 175 := by kernel_rfl
theorem dPow : (Rows.laid_internal_strconv_uint64pow10 : DataW Unit) = Lib.tabData .u64 Lib.pow10Tab := by kernel_rfl
theorem tab_of {W : World} (h : laidMetH Tryd.prog list W) : Str.Tab W ∧ Trap.Door W := by
  have h' : laidMet Tryd.prog [("math/bits.deBruijn32tab", Rows.laid_math_bits_deBruijn32tab), ("math/bits.deBruijn64tab", Rows.laid_math_bits_deBruijn64tab), ("internal/strconv.uint64pow10", Rows.laid_internal_strconv_uint64pow10)] W ∧ handlesMet Tryd.prog [("errors.errorType", Rows.laid_errors_errorType)] W := h
  refine ⟨?_, ?_⟩
  · obtain ⟨ps, ⟨g0, t0, cs0, f0, p0, q0, hg0, ht0, hv0, hd0, ⟨g1, t1, cs1, f1, p1, q1, hg1, ht1, hv1, hd1, ⟨g2, t2, cs2, f2, p2, q2, hg2, ht2, hv2, hd2, _, _⟩, _⟩, _⟩, _, _⟩ := h'.1
    obtain rfl := Option.some.inj (gPow.symm.trans hg2)
    obtain rfl := Option.some.inj (tPow.symm.trans ht2)
    rw [dPow] at hd2
    unfold Str.Tab Lib.TabIs
    rw [hv2]
    have e := Lib.cells_of_tab Tryd.underlying175 Tryd.underlying82 (by kernel_rfl) (by kernel_rfl) hd2
    rw [← e]
  · obtain ⟨name, u, ty, e1, e2, e3, e4, e5⟩ := h'.2 _ (List.mem_singleton.2 rfl)
    have en : name = [101, 114, 114, 111, 114] := (Option.some.inj e1).symm
    subst en
    obtain rfl := Option.some.inj (rt.symm.trans e2)
    have hm : ty ∈ (List.range 211).filter fun t => Tryd.prog.rowNamed t [101, 114, 114, 111, 114] := List.mem_filter.2 ⟨List.mem_range.2 (by rw [← size]; exact e3), e4⟩
    rw [oneRow] at hm
    obtain rfl := List.mem_singleton.1 hm
    have hh : typeHandle Tryd.prog 41 = .pointer (some ⟨4, 41, none⟩) := by kernel_rfl
    rw [hh] at e5
    unfold Trap.Door
    simpa using World.var?_cell et e5 0
end Go.Proofs.YtbelbhdhcgpcpaaDoor.Laid
