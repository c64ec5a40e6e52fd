/- Arguments that are slices of texts, opened. -/
import Derived.Test.YtbelbhdhcgpcpaaDoorTrapPaths
import Derived.Test.YtbelbhdhcgpcpaaDoorRows
import Derived.ProofKit
import Derived.OpenShut
import Derived.ShutString
import Derived.ChangeOld
import Derived.ChangeSame
import Derived.SizedLaws
import Derived.SliceStrings
import Derived.LaidLaws
import Derived.LaidHandle
import Derived.LaidMore
import Derived.Stop.Joined
namespace Go.Proofs.YtbelbhdhcgpcpaaDoor.Args
open Go.ChangeShapes Go.WideShapes Go.ChangeAt Go.RowKit Go.Proofs.YtbelbhdhcgpcpaaDoor.Base Go.Proofs.YtbelbhdhcgpcpaaDoor.Trap
set_option linter.unusedVariables false
set_option linter.unusedSimpArgs false
theorem laidOut : laidOutB Tryd.prog = true := by kernel_rfl
theorem own : ownKnob Tryd.prog.godebug = none := by kernel_rfl
theorem strs_cells {w : World} (a : Addr) (l : List ByteArray) (h : ∀ i, (hi : i < l.length) → w.cell? (a.add i) = some (.string l[i])) : Strs w (some a) l := by
  refine ⟨by rw [enc_len sc_len], fun hn => ⟨a, rfl, fun j u hu => ?_⟩⟩
  have hj : j < l.length := by
    have := enc_len sc_len l
    rcases Nat.lt_or_ge j (enc sc l).length with h1 | h1
    · omega
    · rw [List.getElem?_eq_none h1] at hu; cases hu
  have e := enc_get sc_len l j hj 0 (by omega)
  simp only [Nat.mul_one, Nat.add_zero] at e
  rw [e] at hu
  have hu' : Value.string l[j] = u := by simpa [sc] using hu
  rw [← hu']
  exact h j hj
theorem open_strs {H : Type} {enc : TypeId × Value → H} {w : World} {base : Nat} {spare : Nat → Bool} {held : Bool} {A : Option Addr} {len cap : Nat} {d : DataW H} {p : List MemPlace}
    (h : DataW.Trod enc Tryd.prog w base spare held 39 (.slice A len cap) d p) : ∃ l : List ByteArray, len = l.length ∧ Strs w A l ∧ l.length ≤ cap := by
  obtain ⟨m, hm⟩ := h
  rcases open_strings Tryd.underlying39 Tryd.underlying9 (by kernel_rfl) hm with ⟨hcs, -⟩ | ⟨a, len', cap', ss, hcs, -, hl, -, hz, -, hcell, -⟩
  · injection hcs with hcs
    injection hcs with e1 e2 e3
    subst e1 e2 e3
    exact ⟨[], rfl, Reads.none_, Nat.le_refl _⟩
  · injection hcs with hcs
    injection hcs with e1 e2 e3
    subst e1 e2 e3
    have hlen : len ≤ ss.length := by rw [hz]; split <;> omega
    refine ⟨ss.take len, by rw [List.length_take]; omega, strs_cells a _ (fun i hi => ?_), by rw [List.length_take]; omega⟩
    rw [List.length_take] at hi
    have := hcell i (by omega)
    rw [this, List.getD_eq_getElem?_getD, List.getElem?_eq_getElem (by omega), List.getElem_take]
    rfl
end Go.Proofs.YtbelbhdhcgpcpaaDoor.Args
