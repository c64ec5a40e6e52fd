/- graph.Canon, object.Size, graph.Cells, graph.Size. -/
import Derived.Test.YtbelbhdhcgpcpaaDoorGrNumber
namespace Go.Proofs.YtbelbhdhcgpcpaaDoor.Gr
open Go.RowKit Go.Proofs.YtbelbhdhcgpcpaaDoor.Base
set_option linter.unusedVariables false
set_option linter.unusedSimpArgs false

theorem field_nodes (v0 v1 : Value) (w : World) : (Instr.field 25 (.agg #[v0, v1]) 1).run Tryd.prog w = .ok v1 w := by
  simp [go_sem, Instr.field, run_underlying Tryd.underlying25, part, asAgg]
theorem canon_right {g : Gr} (h : right g = true) : canon g = number g := by simp [canon, h]
theorem box_zero (w : World) (cs : Array Value) (t : TypeId) (o : Obj) : Below w.heap.size w ((w.alloc (.cells cs t)).alloc o) := below_then (below_1 _ _) (below_1 _ _)

set_option maxRecDepth 100000 in
set_option maxHeartbeats 2000000 in
theorem canon_any (A D : Option Addr) (g : Gr) (c d : Nat) (w : World) (hr : right g = true) (hA : Ints w A g.roots) (hD : Nodes w D g.nodes) :
    Calls Tryd.prog 17 #[.agg #[.slice A g.roots.length c, .slice D g.nodes.length d]] w fun e w' => ∃ v, e = .returned v ∧ Firm w.heap.size w' v (canon g) ∧ Below w.heap.size w w' := by
  rw [canon_right hr]
  have HR := Lib.hid hr
  have HA := Lib.hid hA
  have HD := Lib.hid hD
  have HB := Lib.hid (box_zero w #[.slice A g.roots.length c, .slice D g.nodes.length d] 25 (.cells #[.slice none 0 0, .slice none 0 0] 25))
  have HG := Lib.hid ((Blk.new w 25 #[.slice A g.roots.length c, .slice D g.nodes.length d]).alloc (.cells #[.slice none 0 0, .slice none 0 0] 25))
  have hT := Blk.new (w.alloc (.cells #[.slice A g.roots.length c, .slice D g.nodes.length d] 25)) 25 #[.slice none 0 0, .slice none 0 0]
  rw [World.size_alloc] at hT
  have HT := Lib.hid hT
  clear hr hA hD hT
  go_enter Tryd.func17, Tryd.ntmps17
  go_wp2_with fail
  have k := right_any A D g c d _ (HA.out.below HB.out) (HD.out.below HB.out)
  rw [HR.out] at k
  refine k.mono ?_
  rintro e w1 ⟨rfl, hb⟩
  clear k
  have HB1 := Lib.hid (below_then HB.out hb)
  have HG1 := Lib.hid (HG.out.below hb HG.out.lt)
  have HT1 := Lib.hid (HT.out.below hb HT.out.lt)
  have c0 := HG1.out.cell 0
  have c1 := HG1.out.cell 1
  simp only [List.getElem?_toArray, List.getElem?_cons_zero, List.getElem?_cons_succ] at c0 c1
  clear hb HG HT
  go_wp2_with fail
  refine (number_any A D g c d w1 HR.out (HA.out.below HB1.out) (HD.out.below HB1.out)).mono ?_
  rintro e w2 ⟨v, rfl, hV, hb⟩
  have HT2 := HT1.out.below hb HT1.out.lt
  have hz := HT2.lt
  have HB2 := Lib.hid (below_then HB1.out hb)
  obtain ⟨A2, c2, D2, d2, rfl, h1, h2⟩ := hV.now
  have HV := Lib.hid hV
  have t0 := HT2.cell 0
  have t1 := HT2.cell 1
  have f0 := HT2.frozen 0
  have f1 := HT2.frozen 1
  simp only [List.getElem?_toArray, List.getElem?_cons_zero, List.getElem?_cons_succ] at t0 t1
  have HT2' := Lib.hid HT2
  have hz1 := HB1.out.size
  have hz2 := HT1.out.lt
  clear h1 h2 hb HT2 hV
  go_wp2_with fail
  (try simp only [Exit.inBlock, Exit.then])
  have hB2 := (HT2'.out.set_ 0 (.slice A2 (number g).roots.length c2)).set_ 1 (.slice D2 (number g).nodes.length d2)
  refine bodyPost_ret (v := .agg #[.slice A2 (number g).roots.length c2, .slice D2 (number g).nodes.length d2]) (results_cell_row rfl _ _ (w.heap.size + 1) 25 _ (0, 0) _ rfl hB2 Tryd.underlying25 rfl graphSize) rfl ?_
  have hm : Mod (fun k => k = w.heap.size + 1) w2 ((w2.setCell ⟨w.heap.size + 1, 0, none⟩ (.slice A2 (number g).roots.length c2)).setCell ⟨w.heap.size + 1, 1, none⟩ (.slice D2 (number g).nodes.length d2)) :=
    mod_set' (S := fun k => k = w.heap.size + 1) (mod_set' (S := fun k => k = w.heap.size + 1) (Mod.refl _ _) rfl _) rfl _
  exact ⟨_, rfl, (HV.out.mod hm (by rintro b rfl; omega)).low HB1.out.size, mod_below HB2.out hm HB2.out.size (by omega)⟩

theorem header_any (s n : Nat) (w : World) (hs : s ≤ 15) (hn : n ≤ 30) :
    Calls Tryd.prog 105 #[.int .i64 s, .int .i64 n] w fun e w' => e = .returned (.tuple #[.int .i64 (16777216 + 256 * s + n), .bool true]) ∧ w' = w := by
  have e1 : decide ((s : Int) < 0) = false := decide_eq_false (by omega)
  have e2 : decide ((s : Int) > 15) = false := decide_eq_false (by omega)
  have e3 : decide ((n : Int) < 0) = false := decide_eq_false (by omega)
  have e4 : decide ((n : Int) > 30) = false := decide_eq_false (by omega)
  go_enter Tryd.func105, Tryd.ntmps105
  go_wp2
  go_ret2
  exact ⟨rfl, rfl⟩
theorem osize_any (s n : Nat) (w : World) (hs : s ≤ 15) (hn : n ≤ 30) :
    Calls Tryd.prog 79 #[.int .i64 s, .int .i64 n] w fun e w' => e = .returned (.int .i64 (1 + s + n)) ∧ w' = w := by
  go_enter Tryd.func79, Tryd.ntmps79
  go_wp2_with fail
  refine (header_any s n w hs hn).mono ?_
  rintro e w1 ⟨rfl, rfl⟩
  go_wp2
  go_ret
  exact ⟨rfl, rfl⟩

theorem cells_take (l : List Nd) (k : Nat) (h : k < l.length) : cells (l.take (k + 1)) = cells (l.take k) + (1 + l[k].slots.length + l[k].words.length) := by
  rw [List.take_succ_eq_append_getElem h, cells, List.map_append, List.sum_append, List.map_cons, List.map_nil, List.sum_cons, List.sum_nil]
  rfl
theorem cells_small {l : List Nd} (h : ∀ x ∈ l, x.slots.length ≤ 15 ∧ x.words.length ≤ 30) : cells l ≤ 46 * l.length := by
  induction l with
  | nil => simp [cells]
  | cons x l ih =>
    have h1 := ih (fun y hy => h y (List.mem_cons_of_mem _ hy))
    have h2 := h x (List.mem_cons_self)
    simp only [cells, List.map_cons, List.sum_cons, List.length_cons] at *
    omega

set_option maxRecDepth 100000 in
set_option maxHeartbeats 2000000 in
theorem cells_any (D : Option Addr) (l : List Nd) (d : Nat) (w : World) (hD : Nodes w D l) (hl : l.length ≤ 100000) (hx : ∀ x ∈ l, x.slots.length ≤ 15 ∧ x.words.length ≤ 30) :
    Calls Tryd.prog 36 #[.slice D l.length d] w fun e w' => e = .returned (.int .i64 (cells l)) ∧ Below w.heap.size w w' := by
  have HD := Lib.hid hD
  have HX := Lib.hid hx
  clear hD hx
  go_enter Tryd.func36, Tryd.ntmps36
  go_wp2
  go_loopw [3, 8] (fun s i wr => ∃ (k : Nat), k ≤ l.length ∧ i = .int .i64 k ∧ s = .int .i64 (cells (l.take k)) ∧ Hid (Below w.heap.size w wr)) (fun s i _ => l.length - (intOf i).toNat)
  case atStart => exact ⟨0, Nat.zero_le _, rfl, rfl, Lib.hid (Below.refl _ _)⟩
  case round =>
    obtain ⟨k, hk, rfl, rfl, HB⟩ := hrel
    by_cases hlt : k < l.length
    · obtain ⟨dd, As, cs, Bs, ds, rfl, d2, d3, i1, i2⟩ := nds_at (HD.out.below HB.out) k hlt
      have hxk := HX.out l[k] (List.getElem_mem hlt)
      have HT := Lib.hid (cells_take l k hlt)
      have hsm : cells (l.take k) ≤ 46 * k := by
        have := cells_small (l := l.take k) (fun x hx => HX.out x (List.mem_of_mem_take hx))
        rw [List.length_take] at this
        omega
      generalize cells (l.take k) = z at HT hsm
      generalize l[k] = x at d2 d3 i1 i2 hxk HT
      generalize x.slots.length = sl at d2 hxk HT
      generalize x.words.length = wl at d3 hxk HT
      obtain ⟨hx1, hx2⟩ := hxk
      clear i1 i2
      go_wp2_with fail
      refine (osize_any sl wl _ hx1 hx2).mono ?_
      rintro e w1 ⟨rfl, rfl⟩
      go_wp2
      go_roundw
      case rel =>
        refine ⟨k + 1, by omega, by go_num, ?_, Lib.hid (below_then HB.out (below_1 _ _))⟩
        rw [HT.out]
        go_num
      case measure => simp [intOf]; omega
    · go_wp2
      go_ret
      have hkl : k = l.length := by omega
      subst hkl
      rw [List.take_length]
      exact ⟨rfl, HB.out⟩

end Go.Proofs.YtbelbhdhcgpcpaaDoor.Gr
