/- Two graphs in two variables, wherever they lie; what the calls leave of them. -/
import Derived.Test.YtbelbhdhcgpcpaaDoorGrTextsW
namespace Go.Proofs.YtbelbhdhcgpcpaaDoor.Gr
open Go.RowKit Go.Proofs.YtbelbhdhcgpcpaaDoor.Base Go.Proofs.YtbelbhdhcgpcpaaDoor.Str
set_option linter.unusedVariables false
set_option linter.unusedSimpArgs false

structure Two (w wk : World) (p q : Nat) (A B C D : Option Addr) (a b c d : Nat) (g h : Gr) : Prop where
  b1 : Blk wk p 25 #[.slice A g.roots.length a, .slice B g.nodes.length b]
  b2 : Blk wk q 25 #[.slice C h.roots.length c, .slice D h.nodes.length d]
  low : Below w.heap.size w wk
  tab : Tab wk
  g1 : Ints wk A g.roots
  g2 : Nodes wk B g.nodes
  h1 : Ints wk C h.roots
  h2 : Nodes wk D h.nodes
section
variable {w wk wl W' : World} {p q : Nat} {A B C D : Option Addr} {a b c d : Nat} {g h : Gr}
theorem Two.below (H : Two w wk p q A B C D a b c d g h) (hb : Below wk.heap.size wk wl) : Two w wl p q A B C D a b c d g h := ⟨H.b1.below hb H.b1.lt, H.b2.below hb H.b2.lt, below_then H.low hb, H.tab.below hb, H.g1.below hb, H.g2.below hb, H.h1.below hb, H.h2.below hb⟩
theorem Two.like (H : Two w wk p q A B C D a b c d g h) (hl : Like wk wl) : Two w wl p q A B C D a b c d g h := H.below (below_like (Below.refl _ _) hl)
def CellsTwo (W : World) (p q : Nat) (A B C D : Option Addr) (a b c d : Nat) (g h : Gr) : Prop :=
  W.cell? ⟨p, 0, none⟩ = some (.slice A g.roots.length a) ∧ W.cell? ⟨p, 1, none⟩ = some (.slice B g.nodes.length b) ∧ W.cell? ⟨q, 0, none⟩ = some (.slice C h.roots.length c) ∧ W.cell? ⟨q, 1, none⟩ = some (.slice D h.nodes.length d)
theorem Two.cells (H : Two w W' p q A B C D a b c d g h) : CellsTwo W' p q A B C D a b c d g h := ⟨H.b1.cell 0, H.b1.cell 1, H.b2.cell 0, H.b2.cell 1⟩
theorem two_text (X Y : Option Addr) (k : Gr) (x y : Nat) (hr : right k = true) (hX : Ints W' X k.roots) (hY : Nodes W' Y k.nodes) (H : Two w W' p q A B C D a b c d g h) :
    Calls Tryd.prog 16 #[.agg #[.slice X k.roots.length x, .slice Y k.nodes.length y]] W' fun e w' => e = .returned (.string ⟨(grText k).toArray⟩) ∧ CellsTwo w' p q A B C D a b c d g h ∧ Two w w' p q A B C D a b c d g h := by
  obtain ⟨r1, r2, r3, r4⟩ := right_texts hr
  refine (text_any X Y k x y W' hX hY r1 r2 r3 r4 H.tab).mono ?_
  rintro e w' ⟨rfl, hb⟩
  exact ⟨rfl, (H.below hb).cells, H.below hb⟩
theorem two_same (H : Two w W' p q A B C D a b c d g h) :
    Calls Tryd.prog 13 #[.agg #[.slice A g.roots.length a, .slice B g.nodes.length b], .agg #[.slice C h.roots.length c, .slice D h.nodes.length d]] W' fun e w' => e = .returned (.bool (same g h)) ∧ CellsTwo w' p q A B C D a b c d g h ∧ Two w w' p q A B C D a b c d g h := by
  refine (same_any A B C D g h a b c d W' H.g1 H.g2 H.h1 H.h2).mono ?_
  rintro e w' ⟨rfl, hb⟩
  exact ⟨rfl, (H.below hb).cells, H.below hb⟩
theorem two_size (X Y : Option Addr) (k : Gr) (x y : Nat) (hX : Ints W' X k.roots) (hY : Nodes W' Y k.nodes) (H : Two w W' p q A B C D a b c d g h) :
    Calls Tryd.prog 15 #[.agg #[.slice X k.roots.length x, .slice Y k.nodes.length y]] W' fun e w' => e = .returned (.int .i64 (size k)) ∧ CellsTwo w' p q A B C D a b c d g h ∧ Two w w' p q A B C D a b c d g h := by
  refine (size_any X Y k x y W' hX hY).mono ?_
  rintro e w' ⟨rfl, hb⟩
  exact ⟨rfl, (H.below hb).cells, H.below hb⟩
theorem two_canon (X Y : Option Addr) (k : Gr) (x y : Nat) (hr : right k = true) (hX : Ints W' X k.roots) (hY : Nodes W' Y k.nodes) (H : Two w W' p q A B C D a b c d g h) :
    Calls Tryd.prog 17 #[.agg #[.slice X k.roots.length x, .slice Y k.nodes.length y]] W' fun e w' => ∃ X1 x1 Y1 y1, e = .returned (.agg #[.slice X1 (canon k).roots.length x1, .slice Y1 (canon k).nodes.length y1]) ∧ (Ints w' X1 (canon k).roots ∧ Nodes w' Y1 (canon k).nodes) ∧
      CellsTwo w' p q A B C D a b c d g h ∧ Two w w' p q A B C D a b c d g h := by
  refine (canon_any X Y k x y W' hr hX hY).mono ?_
  rintro e w' ⟨v, rfl, hV, hb⟩
  obtain ⟨A1, c1, D1, d1, rfl, h1, h2⟩ := hV.now
  exact ⟨A1, c1, D1, d1, rfl, ⟨h1, h2⟩, (H.below hb).cells, H.below hb⟩
end

end Go.Proofs.YtbelbhdhcgpcpaaDoor.Gr
