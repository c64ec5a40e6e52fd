/- Two graphs in boxes of the call. -/
import Derived.Test.YtbelbhdhcgpcpaaGreatDoorGrCells
namespace Go.Proofs.YtbelbhdhcgpcpaaGreatDoor.Gr
open Go.RowKit Go.Proofs.YtbelbhdhcgpcpaaGreatDoor.Base
set_option linter.unusedVariables false
set_option linter.unusedSimpArgs false

theorem below_like {B : Nat} {w w1 w2 : World} (h : Below B w w1) (hl : Like w1 w2) : Below B w w2 := ⟨hl.os.trans h.os, hl.tape.trans h.tape, hl.output.trans h.output, by rw [hl.heap]; exact h.size, fun i hi => by rw [hl.heap]; exact h.block i hi⟩
theorem like_below {B : Nat} {w w1 w2 : World} (hl : Like w w1) (h : Below B w1 w2) : Below B w w2 := ⟨h.os.trans hl.os, h.tape.trans hl.tape, h.output.trans hl.output, by rw [← hl.heap]; exact h.size, fun i hi => by rw [h.block i hi, hl.heap]⟩

/-- The two boxes of Same. -/
def Boxes (w : World) (p : Nat) (v1 v2 v3 v4 : Value) : Prop := Blk w p 25 #[v1, v2] ∧ Blk w (p + 1) 25 #[v3, v4]
theorem Boxes.below {w w' : World} {p : Nat} {v1 v2 v3 v4 : Value} (h : Boxes w p v1 v2 v3 v4) (hb : Below w.heap.size w w') : Boxes w' p v1 v2 v3 v4 := ⟨h.1.below hb h.1.lt, h.2.below hb h.2.lt⟩
theorem Boxes.cells {w : World} {p : Nat} {v1 v2 v3 v4 : Value} (h : Boxes w p v1 v2 v3 v4) : w.cell? ⟨p, 0, none⟩ = some v1 ∧ w.cell? ⟨p, 1, none⟩ = some v2 ∧ w.cell? ⟨p + 1, 0, none⟩ = some v3 ∧ w.cell? ⟨p + 1, 1, none⟩ = some v4 := by
  have e0 := h.1.cell 0
  have e1 := h.1.cell 1
  have e2 := h.2.cell 0
  have e3 := h.2.cell 1
  simp only [List.getElem?_toArray, List.getElem?_cons_zero, List.getElem?_cons_succ] at e0 e1 e2 e3
  exact ⟨e0, e1, e2, e3⟩
theorem Boxes.new (w : World) (v1 v2 v3 v4 : Value) : Boxes ((w.alloc (.cells #[v1, v2] 25)).alloc (.cells #[v3, v4] 25)) w.heap.size v1 v2 v3 v4 := by
  refine ⟨(Blk.new w _ _).alloc _, ?_⟩
  have := Blk.new (w.alloc (.cells #[v1, v2] 25)) 25 #[v3, v4]
  simpa using this

end Go.Proofs.YtbelbhdhcgpcpaaGreatDoor.Gr
