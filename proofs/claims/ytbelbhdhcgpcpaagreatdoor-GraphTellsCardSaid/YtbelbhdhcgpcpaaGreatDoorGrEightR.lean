/- What Eight gives may be. -/
import Derived.Test.YtbelbhdhcgpcpaaGreatDoorGrEightW
namespace Go.Proofs.YtbelbhdhcgpcpaaGreatDoor.Gr
open Go.RowKit Go.Proofs.YtbelbhdhcgpcpaaGreatDoor.Base
set_option linter.unusedVariables false
set_option linter.unusedSimpArgs false

theorem eight_mod (n : Nat) (v : Int) : 0 ≤ placeI n v ∧ placeI n v ≤ n := by
  unfold placeI
  have := Int.emod_nonneg v (b := (n : Int) + 1) (by omega)
  have := Int.emod_lt_of_pos v (b := (n : Int) + 1) (by omega)
  omega
theorem eight_right {g : Gr} (hs : Small g) : right (eight g) = true := by
  have hn : (eight g).nodes.length = g.nodes.length := by show (g.nodes.map _).length = _; rw [List.length_map]
  have h1 := hs.1
  simp only [right, Bool.and_eq_true, decide_eq_true_eq, List.all_eq_true, hn]
  refine ⟨⟨⟨rts_len _ _ _, by omega⟩, ?_⟩, ?_⟩
  · rw [named, List.all_eq_true]
    intro v hv
    simp only [eight, rts, List.mem_map, List.mem_range] at hv
    obtain ⟨i, hi, rfl⟩ := hv
    have := eight_mod g.nodes.length (g.roots.getD i 0)
    simp only [Bool.and_eq_true, decide_eq_true_eq]
    split <;> omega
  · intro x hx
    simp only [eight, List.mem_map] at hx
    obtain ⟨y, hy, rfl⟩ := hx
    simp only [ndOk, eightNd, Bool.and_eq_true, decide_eq_true_eq, List.length_map, List.length_take]
    refine ⟨⟨⟨by omega, by omega⟩, ?_⟩, ?_⟩
    · rw [wordsOk, List.all_eq_true]
      intro v hv
      simp only [List.mem_map] at hv
      obtain ⟨u, hu, rfl⟩ := hv
      unfold wordI
      simp only [Bool.and_eq_true, decide_eq_true_eq]
      omega
    · rw [named, List.all_eq_true]
      intro v hv
      simp only [List.mem_map] at hv
      obtain ⟨u, hu, rfl⟩ := hv
      have := eight_mod g.nodes.length u
      simp only [Bool.and_eq_true, decide_eq_true_eq]
      omega

end Go.Proofs.YtbelbhdhcgpcpaaGreatDoor.Gr
