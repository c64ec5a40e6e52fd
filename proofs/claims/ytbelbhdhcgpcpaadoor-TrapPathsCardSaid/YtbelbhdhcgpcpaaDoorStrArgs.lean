/- Arguments that are slices of texts, opened; and the row's premise on errors.errorType. -/
import Derived.Test.YtbelbhdhcgpcpaaDoorTrapPaths
import Derived.Test.YtbelbhdhcgpcpaaDoorTrapWraps
import Derived.Test.YtbelbhdhcgpcpaaDoorRows
import Derived.ProofKit
import Derived.OpenShut
import Derived.ShutString
import Derived.ChangeOld
import Derived.ChangeSame
import Derived.SizedLaws
import Derived.SliceStrings
import Derived.LaidLaws
import Derived.LaidHandle
import Derived.LaidMore
import Derived.Stop.Joined
namespace Go.Proofs.YtbelbhdhcgpcpaaDoor.Args
open Go.ChangeShapes Go.WideShapes Go.ChangeAt Go.RowKit Go.Proofs.YtbelbhdhcgpcpaaDoor.Base Go.Proofs.YtbelbhdhcgpcpaaDoor.Trap
set_option linter.unusedVariables false
set_option linter.unusedSimpArgs false
theorem laidOut : laidOutB Tryd.prog = true := by kernel_rfl
theorem own : ownKnob Tryd.prog.godebug = none := by kernel_rfl
theorem strs_cells {w : World} (a : Addr) (l : List ByteArray) (h : ∀ i, (hi : i < l.length) → w.cell? (a.add i) = some (.string l[i])) : Strs w (some a) l := by
  refine ⟨by rw [enc_len sc_len], fun hn => ⟨a, rfl, fun j u hu => ?_⟩⟩
  have hj : j < l.length := by
    have := enc_len sc_len l
    rcases Nat.lt_or_ge j (enc sc l).length with h1 | h1
    · omega
    · rw [List.getElem?_eq_none h1] at hu; cases hu
  have e := enc_get sc_len l j hj 0 (by omega)
  simp only [Nat.mul_one, Nat.add_zero] at e
  rw [e] at hu
  have hu' : Value.string l[j] = u := by simpa [sc] using hu
  rw [← hu']
  exact h j hj
theorem open_strs {H : Type} {enc : TypeId × Value → H} {w : World} {base : Nat} {spare : Nat → Bool} {held : Bool} {A : Option Addr} {len cap : Nat} {d : DataW H} {p : List MemPlace}
    (h : DataW.Trod enc Tryd.prog w base spare held 39 (.slice A len cap) d p) : ∃ l : List ByteArray, len = l.length ∧ Strs w A l ∧ l.length ≤ cap := by
  obtain ⟨m, hm⟩ := h
  rcases open_strings Tryd.underlying39 Tryd.underlying9 (by kernel_rfl) hm with ⟨hcs, -⟩ | ⟨a, len', cap', ss, hcs, -, hl, -, hz, -, hcell, -⟩
  · injection hcs with hcs
    injection hcs with e1 e2 e3
    subst e1 e2 e3
    exact ⟨[], rfl, Reads.none_, Nat.le_refl _⟩
  · injection hcs with hcs
    injection hcs with e1 e2 e3
    subst e1 e2 e3
    have hlen : len ≤ ss.length := by rw [hz]; split <;> omega
    refine ⟨ss.take len, by rw [List.length_take]; omega, strs_cells a _ (fun i hi => ?_), by rw [List.length_take]; omega⟩
    rw [List.length_take] at hi
    have := hcell i (by omega)
    rw [this, List.getD_eq_getElem?_getD, List.getElem?_eq_getElem (by omega), List.getElem_take]
    rfl
end Go.Proofs.YtbelbhdhcgpcpaaDoor.Args
namespace Go.Proofs.YtbelbhdhcgpcpaaDoor.Laid
open Go.ChangeShapes Go.WideShapes Go.ChangeAt Go.RowKit
theorem et : Tryd.prog.globalNamed "errors.errorType" = some 0 := by kernel_rfl
theorem rt : (Tryd.prog.cutTypes.find? (·.1 == "internal/reflectlite.rtype")).map (·.2) = some 152 := by kernel_rfl
theorem oneRow : ((List.range 211).filter fun t => Tryd.prog.rowNamed t [101, 114, 114, 111, 114]) = [41] := by kernel_rfl
theorem size : Tryd.prog.types.size = 211 := by kernel_rfl
def list : List (String × DataW Unit) := [("errors.errorType", Rows.laid_errors_errorType)]
theorem door_met (os : Os) (args : Array Value) : laidMetH Tryd.prog list ((World.doorLaid Tryd.prog 31 os).forCall (fun _ _ => 0) ⟨#[], args, []⟩).memory :=
  laidMetH_of_parts (laidMet_nil _ _) (by kernel_rfl)
theorem tab_of {W : World} (h : laidMetH Tryd.prog list W) : Trap.Door W := by
  have h' : laidMet Tryd.prog [] W ∧ handlesMet Tryd.prog list W := h
  obtain ⟨name, u, ty, e1, e2, e3, e4, e5⟩ := h'.2 _ (List.mem_singleton.2 rfl)
  have en : name = [101, 114, 114, 111, 114] := (Option.some.inj e1).symm
  subst en
  obtain rfl := Option.some.inj (rt.symm.trans e2)
  have hm : ty ∈ (List.range 211).filter fun t => Tryd.prog.rowNamed t [101, 114, 114, 111, 114] := List.mem_filter.2 ⟨List.mem_range.2 (by rw [← size]; exact e3), e4⟩
  rw [oneRow] at hm
  obtain rfl := List.mem_singleton.1 hm
  have hh : typeHandle Tryd.prog 41 = .pointer (some ⟨4, 41, none⟩) := by kernel_rfl
  rw [hh] at e5
  unfold Trap.Door
  simpa using World.var?_cell et e5 0
end Go.Proofs.YtbelbhdhcgpcpaaDoor.Laid
