/- graph.Canon of every graph: its lists are all its own. -/
import Derived.Test.YtbelbhdhcgpcpaaGreatDoorGrOwn
import Derived.Test.YtbelbhdhcgpcpaaGreatDoorGrScan
namespace Go.Proofs.YtbelbhdhcgpcpaaGreatDoor.BkNodes
open Go.RowKit Go.Proofs.YtbelbhdhcgpcpaaGreatDoor.Base Go.Proofs.YtbelbhdhcgpcpaaGreatDoor.Bk Go.Proofs.YtbelbhdhcgpcpaaGreatDoor.Gr
set_option linter.unusedVariables false
set_option linter.unusedSimpArgs false

/-- Bounds that all graphs of the law keep. -/
def Room (g : Gr) : Prop := g.roots.length ≤ 100000 ∧ g.nodes.length ≤ 100000 ∧ ∀ x ∈ g.nodes, x.slots.length ≤ 100000 ∧ x.words.length ≤ 100000
theorem Room.of_right {g : Gr} (h : right g = true) : Room g := by
  obtain ⟨h1, h2, _, h4⟩ := right_parts h
  refine ⟨by omega, by omega, fun x hx => ?_⟩
  have := ndOk_parts (h4 x hx)
  omega
theorem Room.canon {g : Gr} (h : Room g) : Room (canon g) := by
  cases hr : right g with
  | true => rw [canon_right hr]; exact Room.of_right (number_right hr)
  | false => simp only [Gr.canon, hr]; exact h
set_option maxRecDepth 100000 in
set_option maxHeartbeats 2000000 in
theorem canon_deep (A D : Option Addr) (g : Gr) (c d : Nat) (w : World) (hm : Room g) (hA : Ints w A g.roots) (hD : Nodes w D g.nodes) :
    Calls Tryz.prog 11 #[.agg #[.slice A g.roots.length c, .slice D g.nodes.length d]] w fun e w' => ∃ A' a' D' d' ps, e = .returned (.agg #[.slice A' (canon g).roots.length a', .slice D' (canon g).nodes.length d']) ∧ DeepG w' w.heap.size A' a' D' d' ps (canon g) ∧ Below w.heap.size w w' := by
  cases hr : right g with
  | true =>
    have hx := hm.canon.2.2
    refine (canon_own A D g c d w hr hA hD).mono ?_
    rintro e w' ⟨v, rfl, ⟨_, ho⟩, hb⟩
    obtain ⟨A', a', D', d', ps, rfl, hd⟩ := OwnG.deep ho hx
    exact ⟨A', a', D', d', ps, rfl, hd, hb⟩
  | false =>
    rw [show canon g = g by simp only [Gr.canon, hr]; rfl]
    have HR := Lib.hid hr
    have HA := Lib.hid hA
    have HD := Lib.hid hD
    have HM := Lib.hid hm
    have HB := Lib.hid (box_zero w #[.slice A g.roots.length c, .slice D g.nodes.length d] 25 (.cells #[.slice none 0 0, .slice none 0 0] 25))
    have HG := Lib.hid ((Blk.new w 25 #[.slice A g.roots.length c, .slice D g.nodes.length d]).alloc (.cells #[.slice none 0 0, .slice none 0 0] 25))
    have hT := Blk.new (w.alloc (.cells #[.slice A g.roots.length c, .slice D g.nodes.length d] 25)) 25 #[.slice none 0 0, .slice none 0 0]
    rw [World.size_alloc] at hT
    have HT := Lib.hid hT
    clear hr hA hD hT hm
    go_enter Tryz.func11, Tryz.ntmps11
    go_wp2_with fail
    have k := right_any A D g c d _ (HA.out.below HB.out) (HD.out.below HB.out)
    rw [HR.out] at k
    refine k.mono ?_
    rintro e w1 ⟨rfl, hb⟩
    clear k
    have HB1 := Lib.hid (below_then HB.out hb)
    have HG1 := Lib.hid (HG.out.below hb HG.out.lt)
    have HT1 := Lib.hid (HT.out.below hb HT.out.lt)
    have c0 := HG1.out.cell 0
    have c1 := HG1.out.cell 1
    simp only [List.getElem?_toArray, List.getElem?_cons_zero, List.getElem?_cons_succ] at c0 c1
    clear hb HG HT
    go_wp2_with fail
    refine (own_any A D g c d w1 (HA.out.below HB1.out) (HD.out.below HB1.out) HM.out.1 HM.out.2.1 HM.out.2.2).mono ?_
    rintro e w2 ⟨A2, c2, D2, d2, ps, rfl, hO, hb⟩
    have HT2 := HT1.out.below hb HT1.out.lt
    have hz := HT2.lt
    have HB2 := Lib.hid (below_then HB1.out hb)
    have HO := Lib.hid hO
    clear hO
    have t0 := HT2.cell 0
    have t1 := HT2.cell 1
    have f0 := HT2.frozen 0
    have f1 := HT2.frozen 1
    simp only [List.getElem?_toArray, List.getElem?_cons_zero, List.getElem?_cons_succ] at t0 t1
    have HT2' := Lib.hid HT2
    have hz1 := HB1.out.size
    have hz2 := HT1.out.lt
    clear hb HT2
    go_wp2_with fail
    (try simp only [Exit.inBlock, Exit.then])
    have hB2 := (HT2'.out.set_ 0 (.slice A2 g.roots.length c2)).set_ 1 (.slice D2 g.nodes.length d2)
    refine bodyPost_ret (v := .agg #[.slice A2 g.roots.length c2, .slice D2 g.nodes.length d2]) (results_cell_row rfl _ _ (w.heap.size + 1) 25 _ (0, 0) _ rfl hB2 Tryz.underlying25 rfl graphSize) rfl ?_
    have hm := mod_set2 w2 (w.heap.size + 1) 0 (.slice A2 g.roots.length c2) (.slice D2 g.nodes.length d2)
    exact ⟨A2, c2, D2, d2, ps, rfl, (HO.out.mod hm (by rintro b e; injection e with e; omega)).low hz1, (HB2.out.setCell (by simp) _).setCell (by simp) _⟩
end Go.Proofs.YtbelbhdhcgpcpaaGreatDoor.BkNodes
