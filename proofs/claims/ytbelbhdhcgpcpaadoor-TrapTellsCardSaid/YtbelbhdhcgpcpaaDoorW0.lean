/- Words on worlds that the newer texts use: what a call has left alone, what it has drawn. Nothing here names a function of the program. -/
import Derived.Test.YtbelbhdhcgpcpaaDoorBase
import Derived.Test.YtbelbhdhcgpcpaaDoorProg
namespace Go.Proofs.YtbelbhdhcgpcpaaDoor.Base
open Go.RowKit
set_option linter.unusedVariables false
set_option linter.unusedSimpArgs false

theorem bel1 (w : World) (o : Obj) : Below w.heap.size w (w.alloc o) := (Below.refl _ _).alloc (Nat.le_refl _) _
theorem belN {B : Nat} {w w' : World} (h : Below B w w') (n : Nat) : Below B w (w'.drewN n) := ⟨h.os, h.tape, h.output, h.size, h.block⟩
theorem belD {B : Nat} {w w' : World} (h : Below B w w') : Below B w w'.drew := ⟨h.os, h.tape, h.output, h.size, h.block⟩
theorem modN {S : Nat → Prop} {w w' : World} (h : Mod S w w') (n : Nat) : Mod S w (w'.drewN n) := ⟨h.os, h.tape, h.output, h.size, h.block⟩
theorem modD {S : Nat → Prop} {w w' : World} (h : Mod S w w') : Mod S w w'.drew := ⟨h.os, h.tape, h.output, h.size, h.block⟩
theorem modB {S : Nat → Prop} {w w1 w2 : World} (h : Mod S w w1) (k : Below w1.heap.size w1 w2) : Mod S w w2 := h.trans (Mod.of_below (S := fun _ => False) k) (fun _ _ h => h.elim)
theorem modA {S : Nat → Prop} {w w1 : World} (h : Mod S w w1) (o : Obj) : Mod S w (w1.alloc o) := modB h (bel1 w1 o)
/-- A cell of a new block, or of one that may change, is set. -/
theorem modSet {S : Nat → Prop} {w w1 : World} {p : Addr} (h : Mod S w w1) (hp : w.heap.size ≤ p.block ∨ S p.block) (u : Value) : Mod S w (w1.setCell p u) := by
  refine ⟨h.os, h.tape, h.output, by simpa [World.setCell] using h.size, fun i hi hn => ?_⟩
  exact (Below.heap_setCell w1 p u i (by rintro rfl; rcases hp with hp | hp; omega; exact hn hp)).trans (h.block i hi hn)
theorem modCell {S : Nat → Prop} {w w1 : World} (h : Mod S w w1) {p : Addr} {v : Value} (hp : ¬ S p.block) (hv : w.cell? p = some v) : w1.cell? p = some v := by
  have hl : p.block < w.heap.size := cell_lt hv
  have := h.block p.block hl hp
  unfold World.cell? at hv ⊢
  rw [this]
  exact hv
theorem modFrozen {S : Nat → Prop} {w w1 : World} (h : Mod S w w1) {p : Addr} (hl : p.block < w.heap.size) (hp : ¬ S p.block) : w1.frozen? p = w.frozen? p := by
  have := h.block p.block hl hp
  unfold World.frozen?
  rw [this]
end Go.Proofs.YtbelbhdhcgpcpaaDoor.Base
