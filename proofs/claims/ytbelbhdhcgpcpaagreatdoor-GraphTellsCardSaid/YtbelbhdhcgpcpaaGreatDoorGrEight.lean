/- flittinglaw16: place, Light, Eight. -/
import Derived.Test.YtbelbhdhcgpcpaaGreatDoorGrNum
import Derived.IntWalk
import Derived.Deep.RegionLaw
namespace Go.Proofs.YtbelbhdhcgpcpaaGreatDoor.Gr
open Go.RowKit Go.Proofs.YtbelbhdhcgpcpaaGreatDoor.Base
set_option linter.unusedVariables false
set_option linter.unusedSimpArgs false

theorem place_eq (v : Int) (n : Nat) : (v.tmod ((n : Int) + 1) + n + 1) % ((n : Int) + 1) = v % ((n : Int) + 1) := by
  have h2 : v.tmod ((n : Int) + 1) + n + 1 = v.tmod ((n : Int) + 1) + ((n : Int) + 1) := by omega
  rw [h2, Int.add_emod_right, Int.tmod_eq_emod]
  split
  · simp
  · have : ((((n : Int) + 1).natAbs : Nat) : Int) = (n : Int) + 1 := by omega
    rw [this, Int.sub_emod, Int.emod_self]
    simp

theorem place_any (v : Int) (n : Nat) (w : World) (hn : n ≤ 1000000) :
    Calls Tryz.prog 22 #[.int .i64 v, .int .i64 n] w fun e w' => e = .returned (.int .i64 (v % ((n : Int) + 1))) ∧ w' = w := by
  have hp : (0 : Int) < (n : Int) + 1 := by omega
  have h1 : -((n : Int) + 1) < v.tmod ((n : Int) + 1) := Int.lt_tmod_of_pos v hp
  have h2 : v.tmod ((n : Int) + 1) < (n : Int) + 1 := Int.tmod_lt_of_pos v hp
  have h3 : ((n : Int) + 1 == 0) = false := beq_eq_false_iff_ne.mpr (by omega)
  have HE := Lib.hid (place_eq v n)
  go_enter Tryz.func22, Tryz.ntmps22
  go_wp2
  go_ret
  refine ⟨?_, rfl⟩
  rw [← HE.out]
  rfl

/-- Small enough. -/
def Small (g : Gr) : Prop := g.nodes.length ≤ 60 ∧ g.roots.length ≤ 20 ∧ ∀ x ∈ g.nodes, x.slots.length ≤ 30 ∧ x.words.length ≤ 60
def LightOut (e : Ending) (g : Gr) : Prop := ∃ b, e = .returned (.bool b) ∧ (b = true → Small g)
theorem LightOut.no {e : Ending} {g : Gr} (h : e = .returned (.bool false)) : LightOut e g := ⟨false, h, fun h => by cases h⟩
theorem LightOut.yes {e : Ending} {g : Gr} (h : e = .returned (.bool true)) (hs : Small g) : LightOut e g := ⟨true, h, fun _ => hs⟩

set_option maxRecDepth 100000 in
set_option maxHeartbeats 4000000 in
theorem light_any (A D : Option Addr) (g : Gr) (a d : Nat) (w : World) (hA : Ints w A g.roots) (hD : Nodes w D g.nodes) :
    Calls Tryz.prog 4 #[.agg #[.slice A g.roots.length a, .slice D g.nodes.length d]] w fun e w' => LightOut e g ∧ Below w.heap.size w w' := by
  have hal := hA.2
  have hdl := hD.1
  have HD := Lib.hid hD
  have HG := Lib.hid (Blk.new w 25 #[.slice A g.roots.length a, .slice D g.nodes.length d])
  have c0 := HG.out.cell 0
  have c1 := HG.out.cell 1
  simp only [List.getElem?_toArray, List.getElem?_cons_zero, List.getElem?_cons_succ] at c0 c1
  have HB := Lib.hid (below_1 w (.cells #[.slice A g.roots.length a, .slice D g.nodes.length d] 25))
  clear hA hD c0 c1
  go_enter Tryz.func4, Tryz.ntmps4
  go_wp2
  go_loopw [3] (fun i wr => ∃ (k : Nat), k ≤ g.nodes.length ∧ k ≤ 100 ∧ i = .int .i64 k ∧ wr = w.alloc (.cells #[.slice A g.roots.length a, .slice D g.nodes.length d] 25) ∧ Hid (∀ j, (h : j < g.nodes.length) → j < k → g.nodes[j].slots.length ≤ 30 ∧ g.nodes[j].words.length ≤ 60)) (fun i _ => g.nodes.length - (intOf i).toNat)
  case atStart => exact ⟨0, Nat.zero_le _, by omega, rfl, rfl, Lib.hid (fun j h hj => absurd hj (by omega))⟩
  case round =>
    obtain ⟨k, hk, hk2, rfl, rfl, HS⟩ := hrel
    by_cases hlt : k < g.nodes.length
    · by_cases hlt2 : k < 100
      · obtain ⟨dd, As, cs, Bs, ds, rfl, d2', d3', i1, i2⟩ := nds_at HD.out k hlt
        have d2 := (HB.out.cell (cell_lt d2')).trans d2'
        have d3 := (HB.out.cell (cell_lt d3')).trans d3'
        have HN : Hid (∀ (b : Prop), (g.nodes[k].slots.length ≤ 30 ∧ g.nodes[k].words.length ≤ 60) → ∀ j, (h : j < g.nodes.length) → j < k + 1 → g.nodes[j].slots.length ≤ 30 ∧ g.nodes[j].words.length ≤ 60) := by
          intro _ hb j h hj
          rcases Nat.lt_or_ge j k with h1 | h1
          · exact HS.out j h h1
          · have : j = k := by omega
            subst this
            exact hb
        have z1 := i1.2
        have z2 := i2.2
        generalize g.nodes[k] = x at d2 d3 HN z1 z2
        generalize x.slots.length = sl at d2 HN z1
        generalize x.words.length = wl at d3 HN z2
        clear d2' d3' i1 i2
        by_cases h1 : sl ≤ 30
        · by_cases h2 : wl ≤ 60
          · have d100 : decide ((k : Int) < 100) = true := decide_eq_true (by omega)
            go_wp2
            go_roundw
            case rel => exact ⟨k + 1, by omega, by omega, by go_num, trivial, Lib.hid (HN.out True ⟨h1, h2⟩)⟩
            case measure => simp [intOf]; omega
          · have d100 : decide ((k : Int) < 100) = true := decide_eq_true (by omega)
            go_wp2
            go_ret
            exact ⟨LightOut.no rfl, HB.out⟩
        · have d100 : decide ((k : Int) < 100) = true := decide_eq_true (by omega)
          go_wp2
          go_ret
          exact ⟨LightOut.no rfl, HB.out⟩
      · by_cases h3 : g.nodes.length ≤ 60
        · omega
        · have d100 : decide ((k : Int) < 100) = false := decide_eq_false (by omega)
          go_wp2
          go_ret
          exact ⟨LightOut.no rfl, HB.out⟩
    · have hkl : k = g.nodes.length := by omega
      by_cases h3 : g.nodes.length ≤ 60
      · by_cases h4 : g.roots.length ≤ 20
        · go_wp2
          go_ret
          refine ⟨LightOut.yes (ret_bool (decide_eq_true (by omega))) ⟨h3, h4, fun x hx => ?_⟩, HB.out⟩
          obtain ⟨j, hj, rfl⟩ := List.getElem_of_mem hx
          exact HS.out j hj (by omega)
        · go_wp2
          go_ret
          exact ⟨LightOut.no (ret_bool (decide_eq_false (by omega))), HB.out⟩
      · go_wp2
        go_ret
        exact ⟨LightOut.no rfl, HB.out⟩

end Go.Proofs.YtbelbhdhcgpcpaaGreatDoor.Gr
