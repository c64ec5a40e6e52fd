/- How many cells nodes have. -/
import Derived.Test.YtbelbhdhcgpcpaaGreatDoorGrNumber
namespace Go.Proofs.YtbelbhdhcgpcpaaGreatDoor.Gr
open Go.RowKit Go.Proofs.YtbelbhdhcgpcpaaGreatDoor.Base
set_option linter.unusedVariables false
set_option linter.unusedSimpArgs false

theorem field_nodes (v0 v1 : Value) (w : World) : (Instr.field 25 (.agg #[v0, v1]) 1).run Tryz.prog w = .ok v1 w := by
  simp [go_sem, Instr.field, run_underlying Tryz.underlying25, part, asAgg]
theorem canon_right {g : Gr} (h : right g = true) : canon g = number g := by simp [canon, h]
theorem box_zero (w : World) (cs : Array Value) (t : TypeId) (o : Obj) : Below w.heap.size w ((w.alloc (.cells cs t)).alloc o) := below_then (below_1 _ _) (below_1 _ _)

theorem header_any (s n : Nat) (w : World) (hs : s ≤ 15) (hn : n ≤ 30) :
    Calls Tryz.prog 93 #[.int .i64 s, .int .i64 n] w fun e w' => e = .returned (.tuple #[.int .i64 (16777216 + 256 * s + n), .bool true]) ∧ w' = w := by
  have e1 : decide ((s : Int) < 0) = false := decide_eq_false (by omega)
  have e2 : decide ((s : Int) > 15) = false := decide_eq_false (by omega)
  have e3 : decide ((n : Int) < 0) = false := decide_eq_false (by omega)
  have e4 : decide ((n : Int) > 30) = false := decide_eq_false (by omega)
  go_enter Tryz.func93, Tryz.ntmps93
  go_wp2
  go_ret2
  exact ⟨rfl, rfl⟩
theorem osize_any (s n : Nat) (w : World) (hs : s ≤ 15) (hn : n ≤ 30) :
    Calls Tryz.prog 77 #[.int .i64 s, .int .i64 n] w fun e w' => e = .returned (.int .i64 (1 + s + n)) ∧ w' = w := by
  go_enter Tryz.func77, Tryz.ntmps77
  go_wp2_with fail
  refine (header_any s n w hs hn).mono ?_
  rintro e w1 ⟨rfl, rfl⟩
  go_wp2
  go_ret
  exact ⟨rfl, rfl⟩

theorem cells_take (l : List Nd) (k : Nat) (h : k < l.length) : cells (l.take (k + 1)) = cells (l.take k) + (1 + l[k].slots.length + l[k].words.length) := by
  rw [List.take_succ_eq_append_getElem h, cells, List.map_append, List.sum_append, List.map_cons, List.map_nil, List.sum_cons, List.sum_nil]
  rfl
theorem cells_small {l : List Nd} (h : ∀ x ∈ l, x.slots.length ≤ 15 ∧ x.words.length ≤ 30) : cells l ≤ 46 * l.length := by
  induction l with
  | nil => simp [cells]
  | cons x l ih =>
    have h1 := ih (fun y hy => h y (List.mem_cons_of_mem _ hy))
    have h2 := h x (List.mem_cons_self)
    simp only [cells, List.map_cons, List.sum_cons, List.length_cons] at *
    omega

set_option maxRecDepth 100000 in
set_option maxHeartbeats 2000000 in
theorem cells_any (D : Option Addr) (l : List Nd) (d : Nat) (w : World) (hD : Nodes w D l) (hl : l.length ≤ 100000) (hx : ∀ x ∈ l, x.slots.length ≤ 15 ∧ x.words.length ≤ 30) :
    Calls Tryz.prog 38 #[.slice D l.length d] w fun e w' => e = .returned (.int .i64 (cells l)) ∧ Below w.heap.size w w' := by
  have HD := Lib.hid hD
  have HX := Lib.hid hx
  clear hD hx
  go_enter Tryz.func38, Tryz.ntmps38
  go_wp2
  go_loopw [3, 8] (fun s i wr => ∃ (k : Nat), k ≤ l.length ∧ i = .int .i64 k ∧ s = .int .i64 (cells (l.take k)) ∧ Hid (Below w.heap.size w wr)) (fun s i _ => l.length - (intOf i).toNat)
  case atStart => exact ⟨0, Nat.zero_le _, rfl, rfl, Lib.hid (Below.refl _ _)⟩
  case round =>
    obtain ⟨k, hk, rfl, rfl, HB⟩ := hrel
    by_cases hlt : k < l.length
    · obtain ⟨dd, As, cs, Bs, ds, rfl, d2, d3, i1, i2⟩ := nds_at (HD.out.below HB.out) k hlt
      have hxk := HX.out l[k] (List.getElem_mem hlt)
      have HT := Lib.hid (cells_take l k hlt)
      have hsm : cells (l.take k) ≤ 46 * k := by
        have := cells_small (l := l.take k) (fun x hx => HX.out x (List.mem_of_mem_take hx))
        rw [List.length_take] at this
        omega
      generalize cells (l.take k) = z at HT hsm
      generalize l[k] = x at d2 d3 i1 i2 hxk HT
      generalize x.slots.length = sl at d2 hxk HT
      generalize x.words.length = wl at d3 hxk HT
      obtain ⟨hx1, hx2⟩ := hxk
      clear i1 i2
      go_wp2_with fail
      refine (osize_any sl wl _ hx1 hx2).mono ?_
      rintro e w1 ⟨rfl, rfl⟩
      go_wp2
      go_roundw
      case rel =>
        refine ⟨k + 1, by omega, by go_num, ?_, Lib.hid (below_then HB.out (below_1 _ _))⟩
        rw [HT.out]
        go_num
      case measure => simp [intOf]; omega
    · go_wp2
      go_ret
      have hkl : k = l.length := by omega
      subst hkl
      rw [List.take_length]
      exact ⟨rfl, HB.out⟩


end Go.Proofs.YtbelbhdhcgpcpaaGreatDoor.Gr
