/- graph.Canon. -/
import Derived.Test.YtbelbhdhcgpcpaaGreatDoorGrCells
import Derived.Test.YtbelbhdhcgpcpaaGreatDoorGrAlike
namespace Go.Proofs.YtbelbhdhcgpcpaaGreatDoor.Gr
open Go.RowKit Go.Proofs.YtbelbhdhcgpcpaaGreatDoor.Base
set_option linter.unusedVariables false
set_option linter.unusedSimpArgs false

set_option maxRecDepth 100000 in
set_option maxHeartbeats 2000000 in
theorem OwnG.mod {lo : Nat} {w w' : World} {v : Value} {g : Gr} {S : Nat → Prop} (h : OwnG lo w v g) (hm : Mod S w w') (hS : ∀ b, S b → b < lo) : OwnG lo w' v g := by
  have key : ∀ {e s n : Nat} {u : Value} {xs : List Value}, w.ownsRow lo e s u n xs → w'.ownsRow lo e s u n xs := fun {e s n u xs} ho =>
    own_mod ho hm (fun k hk hs => by have h1 := (own_block ho k hk).1; have h2 := hS k hs; omega)
  obtain ⟨A, a, D, d, xs, rfl, o1, o2, o3⟩ := h
  refine ⟨A, a, D, d, xs, rfl, key o1, key o2, fun j hj => ?_⟩
  obtain ⟨B, b, C, c, x1, x2, y1, y2⟩ := o3 j hj
  exact ⟨B, b, C, c, x1, x2, key y1, key y2⟩
theorem OwnG.low {lo lo' : Nat} {w : World} {v : Value} {g : Gr} (h : OwnG lo w v g) (hl : lo' ≤ lo) : OwnG lo' w v g := by
  obtain ⟨A, a, D, d, xs, rfl, o1, o2, o3⟩ := h
  refine ⟨A, a, D, d, xs, rfl, own_lower o1 hl, own_lower o2 hl, fun j hj => ?_⟩
  obtain ⟨B, b, C, c, x1, x2, y1, y2⟩ := o3 j hj
  exact ⟨B, b, C, c, x1, x2, own_lower y1 hl, own_lower y2 hl⟩
theorem OwnG.below {lo : Nat} {w w' : World} {v : Value} {g : Gr} (h : OwnG lo w v g) (hb : Below w.heap.size w w') : OwnG lo w' v g := h.mod (S := fun _ => False) (Mod.of_below hb) (fun _ h => h.elim)
theorem canon_own (A D : Option Addr) (g : Gr) (c d : Nat) (w : World) (hr : right g = true) (hA : Ints w A g.roots) (hD : Nodes w D g.nodes) :
    Calls Tryz.prog 11 #[.agg #[.slice A g.roots.length c, .slice D g.nodes.length d]] w fun e w' => ∃ v, e = .returned v ∧ (Firm w.heap.size w' v (canon g) ∧ OwnG w.heap.size w' v (canon g)) ∧ Below w.heap.size w w' := by
  rw [canon_right hr]
  have HR := Lib.hid hr
  have HA := Lib.hid hA
  have HD := Lib.hid hD
  have HB := Lib.hid (box_zero w #[.slice A g.roots.length c, .slice D g.nodes.length d] 25 (.cells #[.slice none 0 0, .slice none 0 0] 25))
  have HG := Lib.hid ((Blk.new w 25 #[.slice A g.roots.length c, .slice D g.nodes.length d]).alloc (.cells #[.slice none 0 0, .slice none 0 0] 25))
  have hT := Blk.new (w.alloc (.cells #[.slice A g.roots.length c, .slice D g.nodes.length d] 25)) 25 #[.slice none 0 0, .slice none 0 0]
  rw [World.size_alloc] at hT
  have HT := Lib.hid hT
  clear hr hA hD hT
  go_enter Tryz.func11, Tryz.ntmps11
  go_wp2_with fail
  have k := right_any A D g c d _ (HA.out.below HB.out) (HD.out.below HB.out)
  rw [HR.out] at k
  refine k.mono ?_
  rintro e w1 ⟨rfl, hb⟩
  clear k
  have HB1 := Lib.hid (below_then HB.out hb)
  have HG1 := Lib.hid (HG.out.below hb HG.out.lt)
  have HT1 := Lib.hid (HT.out.below hb HT.out.lt)
  have c0 := HG1.out.cell 0
  have c1 := HG1.out.cell 1
  simp only [List.getElem?_toArray, List.getElem?_cons_zero, List.getElem?_cons_succ] at c0 c1
  clear hb HG HT
  go_wp2_with fail
  obtain ⟨hr1, hr2, hr3, hr4⟩ := right_parts HR.out
  refine (number_own A D g c d w1 (by omega) (by omega) hr3 hr4 (HA.out.below HB1.out) (HD.out.below HB1.out)).mono ?_
  clear hr1 hr2 hr3 hr4
  rintro e w2 ⟨v, rfl, ⟨hV, hO⟩, hb⟩
  have HT2 := HT1.out.below hb HT1.out.lt
  have hz := HT2.lt
  have HB2 := Lib.hid (below_then HB1.out hb)
  obtain ⟨A2, c2, D2, d2, rfl, h1, h2⟩ := hV.now
  have HV := Lib.hid hV
  have HO := Lib.hid hO
  clear hO
  have t0 := HT2.cell 0
  have t1 := HT2.cell 1
  have f0 := HT2.frozen 0
  have f1 := HT2.frozen 1
  simp only [List.getElem?_toArray, List.getElem?_cons_zero, List.getElem?_cons_succ] at t0 t1
  have HT2' := Lib.hid HT2
  have hz1 := HB1.out.size
  have hz2 := HT1.out.lt
  clear h1 h2 hb HT2 hV
  go_wp2_with fail
  (try simp only [Exit.inBlock, Exit.then])
  have hB2 := (HT2'.out.set_ 0 (.slice A2 (number g).roots.length c2)).set_ 1 (.slice D2 (number g).nodes.length d2)
  refine bodyPost_ret (v := .agg #[.slice A2 (number g).roots.length c2, .slice D2 (number g).nodes.length d2]) (results_cell_row rfl _ _ (w.heap.size + 1) 25 _ (0, 0) _ rfl hB2 Tryz.underlying25 rfl graphSize) rfl ?_
  have hm : Mod (fun k => k = w.heap.size + 1) w2 ((w2.setCell ⟨w.heap.size + 1, 0, none⟩ (.slice A2 (number g).roots.length c2)).setCell ⟨w.heap.size + 1, 1, none⟩ (.slice D2 (number g).nodes.length d2)) :=
    mod_set' (S := fun k => k = w.heap.size + 1) (mod_set' (S := fun k => k = w.heap.size + 1) (Mod.refl _ _) rfl _) rfl _
  exact ⟨_, rfl, ⟨(HV.out.mod hm (by rintro b rfl; omega)).low HB1.out.size, (HO.out.mod hm (by rintro b rfl; omega)).low HB1.out.size⟩, mod_below HB2.out hm HB2.out.size (by omega)⟩
theorem canon_any (A D : Option Addr) (g : Gr) (c d : Nat) (w : World) (hr : right g = true) (hA : Ints w A g.roots) (hD : Nodes w D g.nodes) :
    Calls Tryz.prog 11 #[.agg #[.slice A g.roots.length c, .slice D g.nodes.length d]] w fun e w' => ∃ v, e = .returned v ∧ Firm w.heap.size w' v (canon g) ∧ Below w.heap.size w w' := by
  refine (canon_own A D g c d w hr hA hD).mono ?_
  rintro e w' ⟨v, he, ⟨hf, _⟩, hb⟩
  exact ⟨v, he, hf, hb⟩


end Go.Proofs.YtbelbhdhcgpcpaaGreatDoor.Gr
