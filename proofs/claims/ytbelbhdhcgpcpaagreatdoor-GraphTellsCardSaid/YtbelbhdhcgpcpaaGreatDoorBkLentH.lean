/- LentGraph (the region ends in a store: go_region_law). -/
import Derived.Test.YtbelbhdhcgpcpaaGreatDoorBkLentG
namespace Go.Proofs.YtbelbhdhcgpcpaaGreatDoor.BkNodes
open Go.RowKit Go.Proofs.YtbelbhdhcgpcpaaGreatDoor.Base Go.Proofs.YtbelbhdhcgpcpaaGreatDoor.Bk Go.Proofs.YtbelbhdhcgpcpaaGreatDoor.Gr
set_option linter.unusedVariables false
set_option linter.unusedSimpArgs false

theorem graphSize2 : (Tryz.prog.info? 25).map (·.size) = some 2 := by kernel_rfl
theorem lentI_mod {w w' : World} {X lo m : Nat} {cs : Array Value} {C : Option Addr} {l : List Int} (hX : Blk w X 25 cs) (h : LentI w lo C l m) (hm : Mod (fun b => some X = some b) w w') : LentI w' lo C l m :=
  ⟨h.1, own_mod h.2 hm (fun k hk hS => by
    injection hS with hS
    subst hS
    exact own_blk_ne h.2 hX (by decide) hk)⟩
theorem lentN_mod {w w' : World} {X lo m : Nat} {cs : Array Value} {D : Option Addr} {xs : List Nd} (hX : Blk w X 25 cs) (h : LentN w lo D xs m) (hm : Mod (fun b => some X = some b) w w') : LentN w' lo D xs m := by
  obtain ⟨ps, b, k, v, h0, h1, h2⟩ := h
  refine ⟨ps, b, k, v, h0, own_mod h1 hm (fun k hk hS => ?_), h2.mod hm (fun b hS => .inr ?_)⟩
  · injection hS with hS
    subst hS
    exact own_blk_ne h1 hX (by decide) hk
  · injection hS with hS
    subst hS
    exact NotInt.of_blk hX (by decide)

set_option maxRecDepth 100000 in
set_option maxHeartbeats 4000000 in
theorem lentG_any (A B : Option Addr) (g : Gr) (a b : Nat) (w : World) (hA : Ints w A g.roots) (hB : Nodes w B g.nodes) (h1 : g.roots.length ≤ 100000) (h2 : g.nodes.length ≤ 100000) (hx : ∀ x ∈ g.nodes, x.slots.length ≤ 100000 ∧ x.words.length ≤ 100000) :
    Calls Tryz.prog 7 #[.agg #[.slice A g.roots.length a, .slice B g.nodes.length b]] w fun e w' =>
      ∃ C c D d, e = .returned (.agg #[.slice C g.roots.length c, .slice D g.nodes.length d]) ∧ LentI w' w.heap.size C g.roots c ∧ LentN w' w.heap.size D g.nodes d ∧ Below w.heap.size w w' := by
  have HZ := Lib.hid (below_then (below_1 w (.cells #[.slice A g.roots.length a, .slice B g.nodes.length b] 25)) (below_1 _ (.cells #[.slice none 0 0, .slice none 0 0] 25)))
  have K1 := Lib.hid (fun (W : World) (hb : Below w.heap.size w W) => lentI_any A g.roots a W (Arr.below hA.1 hb) h1)
  have K2 := Lib.hid (fun (W : World) (hb : Below w.heap.size w W) => lentN_any B g.nodes b W (hB.below hb) h2 hx)
  have G0 := Lib.hid ((Blk.new w 25 #[.slice A g.roots.length a, .slice B g.nodes.length b]).alloc (.cells #[.slice none 0 0, .slice none 0 0] 25))
  have G1 := Lib.hid (Blk.new (w.alloc (.cells #[.slice A g.roots.length a, .slice B g.nodes.length b] 25)) 25 #[.slice none 0 0, .slice none 0 0])
  clear hA hB hx
  go_enter Tryz.func7, Tryz.ntmps7
  go_wp2_with fail
  have x0 := G0.out.cell 0
  have x1 := G0.out.cell 1
  have zl0 := G0.out.lt
  have zl1 := G1.out.lt
  go_region_law (first
    | ((try go_simp)
       go_at_call 24
       revert HI; intro HI
       refine (K2.out _ ?_).mono ?_
       (first | exact hD | exact hD.drew | exact hD.drew.drew | exact hD.drew.drew.drew)
       rintro e w3 ⟨D, d, rfl, hn, hb3⟩
       have HN := Lib.hid hn
       have HI2 := Lib.hid (HI.out.below hb3)
       have hD2 := below_then (show Below w.heap.size w _ by (first | exact hD | exact hD.drew | exact hD.drew.drew | exact hD.drew.drew.drew)) hb3
       have G3 := Lib.hid (Blk.below (by first | exact G2.out | exact G2.out.drewN 1 | exact G2.out.drewN 2) hb3 G2.out.lt)
       have y0 := G3.out.cell 0
       have y1 := G3.out.cell 1
       have f0 := G3.out.frozen 0
       have f1 := G3.out.frozen 1
       simp only [World.size_alloc] at y0 y1 f0 f1)
    | ((try go_simp)
       go_at_call 23
       refine (K1.out _ ?_).mono ?_
       (first | exact HZ.out | exact HZ.out.drew | exact HZ.out.drew.drew | exact HZ.out.drew.drew.drew)
       rintro e w2 ⟨C, c, rfl, hc, ho, hb2⟩
       have HI := Lib.hid (show LentI w2 _ C g.roots c from ⟨hc, ho⟩)
       have hD := below_then (show Below w.heap.size w _ by (first | exact HZ.out | exact HZ.out.drew | exact HZ.out.drew.drew | exact HZ.out.drew.drew.drew)) hb2
       have G2 := Lib.hid (Blk.below (by first | exact G1.out | exact G1.out.drewN 1 | exact G1.out.drewN 2 | exact G1.out.drewN 3) hb2 G1.out.lt)
       have x0 := (hb2.cell (cell_lt x0)).trans x0
       have x1 := (hb2.cell (cell_lt x1)).trans x1))
  all_goals
    go_wp2_with fail
    have hm := mod_set2 w3 (w.heap.size + 1) 0 (.slice C g.roots.length c) (.slice D g.nodes.length d)
    have hB := (G3.out.set_ 0 (.slice C g.roots.length c)).set_ 1 (.slice D g.nodes.length d)
    have G4 := G3.out
    simp only [World.size_alloc] at hB G4
    have hs1 : ∀ b, some (w.heap.size + 1) = some b → w.heap.size ≤ b := fun b h => by
      injection h with h
      omega
    refine bodyPost_ret (v := .agg #[.slice C g.roots.length c, .slice D g.nodes.length d]) (results_cell_row rfl _ _ (w.heap.size + 1) 25 _ (0, 0) _ rfl hB Tryz.underlying25 rfl graphSize2) rfl ?_
    exact ⟨C, c, D, d, rfl, (lentI_mod G4 HI2.out hm).low (by simp; omega), (lentN_mod G4 HN.out hm).low hD.size, bel_modg hD2 hm hs1⟩
end Go.Proofs.YtbelbhdhcgpcpaaGreatDoor.BkNodes
