/- flittingref16.Size: the cells of all nodes. -/
import Derived.Test.YtbelbhdhcgpcpaaGreatDoorGrCells
import Derived.IntWalk
namespace Go.Proofs.YtbelbhdhcgpcpaaGreatDoor.Gr
open Go.RowKit Go.Proofs.YtbelbhdhcgpcpaaGreatDoor.Base
set_option linter.unusedVariables false
set_option linter.unusedSimpArgs false

set_option maxRecDepth 100000 in
set_option maxHeartbeats 2000000 in
theorem rsize_any (v0 : Value) (D : Option Addr) (l : List Nd) (d : Nat) (w : World) (hD : Nodes w D l) (hl : l.length ≤ 100000) (hx : ∀ x ∈ l, x.slots.length ≤ 15 ∧ x.words.length ≤ 30) :
    Calls Tryz.prog 10 #[.agg #[v0, .slice D l.length d]] w fun e w' => e = .returned (.int .i64 (cells l)) ∧ Below w.heap.size w w' := by
  have HD := Lib.hid (hD.below (below_1 w (.cells #[v0, .slice D l.length d] 25)))
  have HX := Lib.hid hx
  have HG := Lib.hid (Blk.new w 25 #[v0, .slice D l.length d])
  have HB0 := Lib.hid (below_1 w (.cells #[v0, .slice D l.length d] 25))
  obtain ⟨W, hW⟩ : ∃ W, w.alloc (.cells #[v0, .slice D l.length d] 25) = W := ⟨_, rfl⟩
  rw [hW] at HD HG HB0
  have hsz : w.heap.size < W.heap.size := HG.out.lt
  clear hD hx
  go_enter Tryz.func10, Tryz.ntmps10
  go_wp2
  have HW := Lib.hid hW
  clear hW
  go_loopw [3, 4] (fun s i wr => ∃ (k : Nat), k ≤ l.length ∧ i = .int .i64 k ∧ s = .int .i64 (cells (l.take k)) ∧ Hid (Below W.heap.size W wr)) (fun s i _ => l.length - (intOf i).toNat)
  case atStart => exact ⟨0, Nat.zero_le _, rfl, rfl, Lib.hid (Below.refl _ _)⟩
  case round =>
    obtain ⟨k, hk, rfl, rfl, HB⟩ := hrel
    have c1 := (HB.out.cell (p := ⟨w.heap.size, 1, none⟩) hsz).trans (HG.out.cell 1)
    simp only [List.getElem?_toArray, List.getElem?_cons_zero, List.getElem?_cons_succ] at c1
    by_cases hlt : k < l.length
    · obtain ⟨dd, As, cs, Bs, ds, rfl, d2, d3, i1, i2⟩ := nds_at (HD.out.below HB.out) k hlt
      have hxk := HX.out l[k] (List.getElem_mem hlt)
      have HT := Lib.hid (cells_take l k hlt)
      have hsm : cells (l.take k) ≤ 46 * k := by
        have := cells_small (l := l.take k) (fun x hx => HX.out x (List.mem_of_mem_take hx))
        rw [List.length_take] at this
        omega
      generalize cells (l.take k) = z at HT hsm
      generalize l[k] = x at d2 d3 i1 i2 hxk HT
      generalize x.slots.length = sl at d2 hxk HT
      generalize x.words.length = wl at d3 hxk HT
      obtain ⟨hx1, hx2⟩ := hxk
      clear i1 i2
      have hq1 : IntKind.i64.wrap ((z : Int) + 1) = (z : Int) + 1 := IntWalk.i64_in _ (by omega)
      have hq2 : IntKind.i64.wrap ((z : Int) + 1 + (sl : Int)) = (z : Int) + 1 + (sl : Int) := IntWalk.i64_in _ (by omega)
      have hq3 : IntKind.i64.wrap ((z : Int) + 1 + (sl : Int) + (wl : Int)) = (z : Int) + 1 + (sl : Int) + (wl : Int) := IntWalk.i64_in _ (by omega)
      go_wp2_with fail
      go_quiet (fail)
      go_wp2
      go_roundw
      case rel =>
        refine ⟨k + 1, by omega, by go_num, ?_, Lib.hid (below_drewN HB.out _)⟩
        rw [HT.out]
        go_num
      case measure => simp [intOf]; omega
    · have hkl : k = l.length := by omega
      subst hkl
      go_wp2
      go_ret
      exact ⟨by rw [List.take_length]; rfl, below_then HB0.out HB.out⟩

end Go.Proofs.YtbelbhdhcgpcpaaGreatDoor.Gr
