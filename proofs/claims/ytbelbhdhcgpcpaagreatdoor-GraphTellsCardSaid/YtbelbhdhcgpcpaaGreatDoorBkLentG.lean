/- LentGraph, StaysGraph. -/
import Derived.Test.YtbelbhdhcgpcpaaGreatDoorBkLent
namespace Go.Proofs.YtbelbhdhcgpcpaaGreatDoor.BkNodes
open Go.RowKit Go.Proofs.YtbelbhdhcgpcpaaGreatDoor.Base Go.Proofs.YtbelbhdhcgpcpaaGreatDoor.Bk Go.Proofs.YtbelbhdhcgpcpaaGreatDoor.Gr
set_option linter.unusedVariables false
set_option linter.unusedSimpArgs false

/-- What a lent list of numbers is. -/
def LentI (w : World) (lo : Nat) (B : Option Addr) (l : List Int) (m : Nat) : Prop := l.length + 1 ≤ m ∧ w.ownsRow lo 3 1 (.slice B (l.length + 1) m) (l.length + 1) (enc ic (l ++ [-77]))
theorem LentI.below {w w' : World} {lo : Nat} {B : Option Addr} {l : List Int} {m : Nat} (h : LentI w lo B l m) (hb : Below w.heap.size w w') : LentI w' lo B l m := ⟨h.1, own_below h.2 hb⟩
theorem LentI.low {w : World} {lo lo' : Nat} {B : Option Addr} {l : List Int} {m : Nat} (h : LentI w lo B l m) (hl : lo' ≤ lo) : LentI w lo' B l m := ⟨h.1, own_lower h.2 hl⟩
theorem LentN.low {w : World} {lo lo' : Nat} {B : Option Addr} {xs : List Nd} {m : Nat} (h : LentN w lo B xs m) (hl : lo' ≤ lo) : LentN w lo' B xs m := by
  obtain ⟨ps, b, k, v, h0, h1, h2⟩ := h
  exact ⟨ps, b, k, v, h0, own_lower h1 hl, h2.low hl⟩
theorem staysI_lent (A B : Option Addr) (l : List Int) (c m lo : Nat) (w : World) (hl : Arr w ic 1 A l) (hm : LentI w lo B l m) (hn : l.length ≤ 100000) :
    Calls Tryz.prog 43 #[.slice B l.length m, .slice A l.length c] w fun e w' => e = .returned (.bool true) ∧ Below w.heap.size w w' := by
  refine staysI_any A B l c m w hl ?_ hn hm.1
  have h := Reads.of_own hm.2
  show Reads w 1 B (l ++ [(-77 : Int)]).length _
  simp only [List.length_append, List.length_singleton]
  exact h
set_option maxRecDepth 100000 in
set_option maxHeartbeats 4000000 in
theorem staysG_any (A B C D : Option Addr) (g : Gr) (a b c d lo : Nat) (w : World) (hA : Ints w A g.roots) (hB : Nodes w B g.nodes) (hC : LentI w lo C g.roots c) (hD : LentN w lo D g.nodes d)
    (h1 : g.roots.length ≤ 100000) (h2 : g.nodes.length ≤ 100000) (hx : ∀ x ∈ g.nodes, x.slots.length ≤ 100000 ∧ x.words.length ≤ 100000) :
    Calls Tryz.prog 20 #[.agg #[.slice C g.roots.length c, .slice D g.nodes.length d], .agg #[.slice A g.roots.length a, .slice B g.nodes.length b]] w fun e w' => e = .returned (.bool true) ∧ Below w.heap.size w w' := by
  have HZ := Lib.hid (below_then (below_1 w (.cells #[.slice C g.roots.length c, .slice D g.nodes.length d] 25)) (below_1 _ (.cells #[.slice A g.roots.length a, .slice B g.nodes.length b] 25)))
  have K1 := Lib.hid (fun (W : World) (hb : Below w.heap.size w W) => staysI_lent A C g.roots a c lo W (Arr.below hA.1 hb) (hC.below hb) h1)
  have K2 := Lib.hid (fun (W : World) (hb : Below w.heap.size w W) => staysN_any B D g.nodes b d lo W (hB.below hb) (hD.below hb) h2 hx)
  clear hA hB hC hD hx
  go_enter Tryz.func20, Tryz.ntmps20
  have G0 := Lib.hid ((Blk.new w 25 #[.slice C g.roots.length c, .slice D g.nodes.length d]).alloc (.cells #[.slice A g.roots.length a, .slice B g.nodes.length b] 25))
  have G1 := Lib.hid (Blk.new (w.alloc (.cells #[.slice C g.roots.length c, .slice D g.nodes.length d] 25)) 25 #[.slice A g.roots.length a, .slice B g.nodes.length b])
  go_wp2_with fail
  refine (K1.out _ HZ.out).mono ?_
  rintro e w2 ⟨rfl, hb2⟩
  have x1 := (G0.out.below hb2 G0.out.lt).cell 1
  have y1 := (G1.out.below hb2 G1.out.lt).cell 1
  simp only [World.size_alloc] at y1
  have HB2 := Lib.hid (below_then HZ.out hb2)
  clear hb2
  go_wp2_with fail
  refine (K2.out _ HB2.out).mono ?_
  rintro e w3 ⟨rfl, hb3⟩
  have HB3 := Lib.hid (below_then HB2.out hb3)
  clear hb3
  go_wp2_with fail
  go_ret
  exact ⟨rfl, HB3.out⟩
end Go.Proofs.YtbelbhdhcgpcpaaGreatDoor.BkNodes
