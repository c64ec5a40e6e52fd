/- Two graphs' variables: the first part of GrTextsW, for seats without the other laws. -/
import Derived.Test.YtbelbhdhcgpcpaaGreatDoorGrTexts
import Derived.Test.YtbelbhdhcgpcpaaGreatDoorGrAlive
import Derived.Test.YtbelbhdhcgpcpaaGreatDoorGrEightW
import Derived.Test.YtbelbhdhcgpcpaaGreatDoorGrEightR
import Derived.Test.YtbelbhdhcgpcpaaGreatDoorGrRef
namespace Go.Proofs.YtbelbhdhcgpcpaaGreatDoor.Gr
open Go.RowKit Go.Proofs.YtbelbhdhcgpcpaaGreatDoor.Base Go.Proofs.YtbelbhdhcgpcpaaGreatDoor.Str
set_option linter.unusedVariables false
set_option linter.unusedSimpArgs false

/-- Two graphs' variables. -/
structure Duo (w wk : World) (p : Nat) (v1 v2 v3 v4 : Value) : Prop where
  boxes : Boxes wk p v1 v2 v3 v4
  low : Below w.heap.size w wk
  tab : Tab wk
theorem Duo.below {w wk wl : World} {p : Nat} {v1 v2 v3 v4 : Value} (h : Duo w wk p v1 v2 v3 v4) (hb : Below wk.heap.size wk wl) : Duo w wl p v1 v2 v3 v4 := ⟨h.boxes.below hb, below_then h.low hb, h.tab.below hb⟩
theorem tab_like {w w' : World} (h : Tab w) (hl : Like w w') : Tab w' := h.mod (S := fun _ => False) (like_mod hl) (fun h => h)
theorem Duo.like {w wk wl : World} {p : Nat} {v1 v2 v3 v4 : Value} (h : Duo w wk p v1 v2 v3 v4) (hl : Like wk wl) : Duo w wl p v1 v2 v3 v4 := ⟨⟨Blk.like h.boxes.1 hl, Blk.like h.boxes.2 hl⟩, below_like h.low hl, tab_like h.tab hl⟩
theorem Duo.lt {w wk : World} {p : Nat} {v1 v2 v3 v4 : Value} (h : Duo w wk p v1 v2 v3 v4) : p + 2 ≤ wk.heap.size := by have := h.boxes.2.lt; omega
/-- What a walk wants of the boxes. -/
def Seen (w : World) (p : Nat) (v1 v2 v3 v4 : Value) : Prop :=
  (w.cell? ⟨p, 0, none⟩ = some v1 ∧ w.cell? ⟨p, 1, none⟩ = some v2 ∧ w.cell? ⟨p + 1, 0, none⟩ = some v3 ∧ w.cell? ⟨p + 1, 1, none⟩ = some v4) ∧
  (w.frozen? ⟨p, 0, none⟩ = false ∧ w.frozen? ⟨p, 1, none⟩ = false ∧ w.frozen? ⟨p + 1, 0, none⟩ = false ∧ w.frozen? ⟨p + 1, 1, none⟩ = false) ∧ p < w.heap.size ∧ p + 1 < w.heap.size
theorem Boxes.seen {w : World} {p : Nat} {v1 v2 v3 v4 : Value} (h : Boxes w p v1 v2 v3 v4) : Seen w p v1 v2 v3 v4 := ⟨h.cells, ⟨h.1.frozen 0, h.1.frozen 1, h.2.frozen 0, h.2.frozen 1⟩, h.1.lt, h.2.lt⟩

theorem duo_eight {w w1 W' : World} {p : Nat} {v1 v2 v3 v4 : Value} (A D : Option Addr) (g : Gr) (c d : Nat) (hs : Small g) (hA : Ints w A g.roots) (hD : Nodes w D g.nodes) (hl : Like w1 W') (hX : Duo w w1 p v1 v2 v3 v4) :
    Calls Tryz.prog 6 #[.agg #[.slice A g.roots.length c, .slice D g.nodes.length d]] W' fun e w' => ∃ A3 a3 D3 d3, e = .returned (.agg #[.slice A3 (eight g).roots.length a3, .slice D3 (eight g).nodes.length d3]) ∧
      Seen w' p v1 v2 v3 v4 ∧ Hid (Duo w w' p v1 v2 v3 v4) ∧ Hid (Firm (p + 2) w' (.agg #[.slice A3 (eight g).roots.length a3, .slice D3 (eight g).nodes.length d3]) (eight g)) ∧ Hid (Below w1.heap.size w1 w') := by
  refine (eight_any A D g c d W' hs (hA.below (below_like hX.low hl)) (hD.below (below_like hX.low hl))).mono ?_
  rintro e w' ⟨v, rfl, hV, hb⟩
  have hb' : Below w1.heap.size w1 w' := by have := like_below hl hb; rw [hl.heap] at this; exact this
  obtain ⟨A1, c1, D1, d1, rfl, h1, h2⟩ := hV.now
  have hX' := hX.below hb'
  exact ⟨A1, c1, D1, d1, rfl, hX'.boxes.seen, hX', hV.low (by rw [hl.heap]; exact hX.lt), hb'⟩
theorem duo_store {w w4 W : World} {p : Nat} {v1 v2 v3 v4 u1 u2 u3 u4 : Value} {g h : Gr} (hD : Duo w w4 p v1 v2 v3 v4) (hp : p = w.heap.size) (ht : Tab w) (hF1 : Firm (p + 2) w4 (.agg #[u1, u2]) g) (hF2 : Firm (p + 2) w4 (.agg #[u3, u4]) h)
    (hl : Like ((((w4.setCell ⟨p, 0, none⟩ u1).setCell ⟨p, 1, none⟩ u2).setCell ⟨p + 1, 0, none⟩ u3).setCell ⟨p + 1, 1, none⟩ u4) W) :
    Duo w W p u1 u2 u3 u4 ∧ GrV W (.agg #[u1, u2]) g ∧ GrV W (.agg #[u3, u4]) h := by
  have hm : Mod (fun b => b = p ∨ b = p + 1) w4 W := Mod.like (mod_set' (S := fun b => b = p ∨ b = p + 1) (mod_set' (S := fun b => b = p ∨ b = p + 1) (mod_set' (S := fun b => b = p ∨ b = p + 1) (mod_set' (S := fun b => b = p ∨ b = p + 1) (Mod.refl _ _) (.inl rfl) _) (.inl rfl) _) (.inr rfl) _) (.inr rfl) _) hl
  have hlow : Below w.heap.size w W := mod_below hD.low hm hD.low.size (by rintro b hb (e | e) <;> omega)
  refine ⟨⟨⟨?_, ?_⟩, hlow, ht.below hlow⟩, hF1 _ _ hm (by rintro b (e | e) <;> omega), hF2 _ _ hm (by rintro b (e | e) <;> omega)⟩
  · refine Blk.like ?_ hl
    exact (((hD.boxes.1.set_ 0 u1).set_ 1 u2).far (by simp) _).far (by simp) _
  · refine Blk.like ?_ hl
    exact ((((hD.boxes.2.far (by simp) _).far (by simp) _).set_ 0 u3).set_ 1 u4)

/-- Two graphs that may be, in their variables. -/
structure Duo2 (w wk : World) (p : Nat) (A B C D : Option Addr) (a b c d : Nat) (g h : Gr) : Prop where
  duo : Duo w wk p (.slice A g.roots.length a) (.slice B g.nodes.length b) (.slice C h.roots.length c) (.slice D h.nodes.length d)
  g1 : Ints wk A g.roots
  g2 : Nodes wk B g.nodes
  h1 : Ints wk C h.roots
  h2 : Nodes wk D h.nodes
theorem Duo2.below {w wk wl : World} {p : Nat} {A B C D : Option Addr} {a b c d : Nat} {g h : Gr} (H : Duo2 w wk p A B C D a b c d g h) (hb : Below wk.heap.size wk wl) : Duo2 w wl p A B C D a b c d g h := ⟨H.duo.below hb, H.g1.below hb, H.g2.below hb, H.h1.below hb, H.h2.below hb⟩
theorem Duo2.like {w wk wl : World} {p : Nat} {A B C D : Option Addr} {a b c d : Nat} {g h : Gr} (H : Duo2 w wk p A B C D a b c d g h) (hl : Like wk wl) : Duo2 w wl p A B C D a b c d g h :=
  ⟨H.duo.like hl, H.g1.below (below_like (Below.refl _ _) hl), H.g2.below (below_like (Below.refl _ _) hl), H.h1.below (below_like (Below.refl _ _) hl), H.h2.below (below_like (Below.refl _ _) hl)⟩
theorem duo_form {W : World} {A : Option Addr} {a : Nat} {B : Option Addr} {b : Nat} {g : Gr} (h : GrV W (.agg #[.slice A g.roots.length a, .slice B g.nodes.length b]) g) : Ints W A g.roots ∧ Nodes W B g.nodes := by
  obtain ⟨A1, a1, B1, b1, e, h1, h2⟩ := h
  injection e with e
  obtain ⟨e1, e2⟩ : (Value.slice A g.roots.length a = .slice A1 g.roots.length a1) ∧ (Value.slice B g.nodes.length b = .slice B1 g.nodes.length b1) := by simpa using e
  injection e1 with e1 _ _
  injection e2 with e2 _ _
  subst e1 e2
  exact ⟨h1, h2⟩
theorem right_texts {g : Gr} (hg : right g = true) : g.roots.length ≤ 1000 ∧ g.nodes.length ≤ 1000000 ∧ fits g.roots ∧ ∀ x ∈ g.nodes, ndFits x := by
  obtain ⟨h1, h2, h3, h4⟩ := right_fits hg
  refine ⟨by omega, by omega, fun v hv => by have := h3 v hv; omega, fun x hx => ?_⟩
  obtain ⟨q1, q2, q3, q4⟩ := h4 x hx
  exact ⟨by omega, by omega, fun v hv => by have := q3 v hv; omega, fun v hv => by have := q4 v hv; omega⟩
theorem canon_right2 {g : Gr} (hg : right g = true) : right (canon g) = true := by rw [canon_right hg]; exact number_right hg

section
variable {w W' : World} {p : Nat} {A B C D : Option Addr} {a b c d : Nat} {g h : Gr}
def Cells4 (W : World) (p : Nat) (A B C D : Option Addr) (a b c d : Nat) (g h : Gr) : Prop :=
  W.cell? ⟨p, 0, none⟩ = some (.slice A g.roots.length a) ∧ W.cell? ⟨p, 1, none⟩ = some (.slice B g.nodes.length b) ∧ W.cell? ⟨p + 1, 0, none⟩ = some (.slice C h.roots.length c) ∧ W.cell? ⟨p + 1, 1, none⟩ = some (.slice D h.nodes.length d)
theorem Duo2.cells (H : Duo2 w W' p A B C D a b c d g h) : Cells4 W' p A B C D a b c d g h := H.duo.boxes.cells
theorem duo_text (X Y : Option Addr) (k : Gr) (x y : Nat) (hr : right k = true) (hX : Ints W' X k.roots) (hY : Nodes W' Y k.nodes) (H : Duo2 w W' p A B C D a b c d g h) :
    Calls Tryz.prog 18 #[.agg #[.slice X k.roots.length x, .slice Y k.nodes.length y]] W' fun e w' => e = .returned (.string ⟨(grText k).toArray⟩) ∧ Cells4 w' p A B C D a b c d g h ∧ Duo2 w w' p A B C D a b c d g h := by
  obtain ⟨r1, r2, r3, r4⟩ := right_texts hr
  refine (text_any X Y k x y W' hX hY r1 r2 r3 r4 H.duo.tab).mono ?_
  rintro e w' ⟨rfl, hb⟩
  exact ⟨rfl, (H.below hb).cells, H.below hb⟩
theorem duo_alike (H : Duo2 w W' p A B C D a b c d g h) :
    Calls Tryz.prog 13 #[.agg #[.slice A g.roots.length a, .slice B g.nodes.length b], .agg #[.slice C h.roots.length c, .slice D h.nodes.length d]] W' fun e w' => e = .returned (.bool (decide (g = h))) ∧ Cells4 w' p A B C D a b c d g h ∧ Duo2 w w' p A B C D a b c d g h := by
  refine (refalike_any A B C D g h a b c d W' H.g1 H.g2 H.h1 H.h2).mono ?_
  rintro e w' ⟨rfl, hb⟩
  exact ⟨rfl, (H.below hb).cells, H.below hb⟩
theorem duo_same (H : Duo2 w W' p A B C D a b c d g h) :
    Calls Tryz.prog 15 #[.agg #[.slice A g.roots.length a, .slice B g.nodes.length b], .agg #[.slice C h.roots.length c, .slice D h.nodes.length d]] W' fun e w' => e = .returned (.bool (same g h)) ∧ Cells4 w' p A B C D a b c d g h ∧ Duo2 w w' p A B C D a b c d g h := by
  refine (same_any A B C D g h a b c d W' H.g1 H.g2 H.h1 H.h2).mono ?_
  rintro e w' ⟨rfl, hb⟩
  exact ⟨rfl, (H.below hb).cells, H.below hb⟩
theorem duo_canon (X Y : Option Addr) (k : Gr) (x y : Nat) (hr : right k = true) (hX : Ints W' X k.roots) (hY : Nodes W' Y k.nodes) (H : Duo2 w W' p A B C D a b c d g h) :
    Calls Tryz.prog 11 #[.agg #[.slice X k.roots.length x, .slice Y k.nodes.length y]] W' fun e w' => ∃ X1 x1 Y1 y1, e = .returned (.agg #[.slice X1 (canon k).roots.length x1, .slice Y1 (canon k).nodes.length y1]) ∧ (Ints w' X1 (canon k).roots ∧ Nodes w' Y1 (canon k).nodes) ∧
      Cells4 w' p A B C D a b c d g h ∧ Duo2 w w' p A B C D a b c d g h := by
  refine (canon_any X Y k x y W' hr hX hY).mono ?_
  rintro e w' ⟨v, rfl, hV, hb⟩
  obtain ⟨A1, c1, D1, d1, rfl, h1, h2⟩ := hV.now
  exact ⟨A1, c1, D1, d1, rfl, ⟨h1, h2⟩, (H.below hb).cells, H.below hb⟩
end

end Go.Proofs.YtbelbhdhcgpcpaaGreatDoor.Gr
