/- Plain facts: which nodes a numbered form has: those that are reached, each once; its measure is theirs. -/
import Derived.Test.YtbelbhdhcgpcpaaDoorGrTurn
import Derived.Test.YtbelbhdhcgpcpaaDoorGrOrd
namespace Go.Proofs.YtbelbhdhcgpcpaaDoor.Gr
open Go.RowKit Go.Proofs.YtbelbhdhcgpcpaaDoor.Base
set_option linter.unusedVariables false
set_option linter.unusedSimpArgs false

/-- A node that stands at a root alone, and names nothing. -/
theorem grow_size {g h : Gr} (hg : right g = true) (hh : right h = true) (y : Nd) (hy : ∀ a ∈ y.slots, a = 0) (hn : h.nodes = g.nodes ++ [y])
    (hr : ∀ a : Int, a ≠ 0 → (a ∈ h.roots ↔ a ∈ g.roots ∨ a = (g.nodes.length : Int) + 1)) : cells (number h).nodes = cells (number g).nodes + ndSize y ∧ (number h).nodes.length = (number g).nodes.length + 1 := by
  obtain ⟨a1, a2, a3, a4, a5, a6⟩ := ordF_all (well_right hg)
  obtain ⟨b1, b2, b3, b4, b5, b6⟩ := ordF_all (well_right hh)
  have hlen : h.nodes.length = g.nodes.length + 1 := by rw [hn]; simp
  have hold : ∀ a : Int, 1 ≤ a → a ≤ g.nodes.length → nodeAt h a = nodeAt g a := by
    intro a h1 h2
    rw [nodeAt_eq h a h1 (by omega), nodeAt_eq g a h1 h2]
    simp only [hn]
    rw [List.getElem_append_left]
  have hnew : nodeAt h ((g.nodes.length : Int) + 1) = y := by
    rw [nodeAt_eq h _ (by omega) (by omega)]
    simp only [hn]
    rw [List.getElem_append_right (by omega)]
    simp
  have hsub : ∀ b ∈ ordF h, b ∈ ordF g ∨ b = (g.nodes.length : Int) + 1 := by
    refine b6 (fun b => b ∈ ordF g ∨ b = (g.nodes.length : Int) + 1) ?_ ?_
    · intro a ha h0
      rcases (hr a h0).1 ha with h | h
      · exact .inl (a2 a h h0)
      · exact .inr h
    · rintro b (hb | rfl) h1 h2 a ha h0
      · rw [hold b h1 (a1.2 b hb).2] at ha
        exact .inl (a3 b hb a ha h0)
      · rw [hnew] at ha
        exact absurd (hy a ha) h0
  have hsup : ∀ b ∈ ordF g, b ∈ ordF h ∧ b ≤ g.nodes.length := by
    refine a6 (fun b => b ∈ ordF h ∧ b ≤ g.nodes.length) ?_ ?_
    · intro a ha h0
      refine ⟨b2 a ((hr a h0).2 (.inl ha)) h0, ?_⟩
      exact (a1.2 a (a2 a ha h0)).2
    · rintro b ⟨hb, hb2⟩ h1 h2 a ha h0
      have hns := (ndOk_parts (nodeAt_ok (well_right hg) h1 h2)).2.2.2
      rw [named, List.all_eq_true] at hns
      have h3 := hns a ha
      simp only [Bool.and_eq_true, decide_eq_true_eq] at h3
      rw [← hold b h1 h2] at ha
      exact ⟨b3 b hb a ha h0, h3.2⟩
  have hmem : ∀ a, a ∈ ordF h ↔ a ∈ ((g.nodes.length : Int) + 1) :: ordF g := by
    intro a
    rw [List.mem_cons]
    constructor
    · intro ha
      rcases hsub a ha with h | h
      · exact .inr h
      · exact .inl h
    · rintro (rfl | ha)
      · exact b2 _ ((hr _ (by omega)).2 (.inr rfl)) (by omega)
      · exact (hsup a ha).1
  have hnd : (((g.nodes.length : Int) + 1) :: ordF g).Nodup := List.nodup_cons.2 ⟨fun hc => by have := (a1.2 _ hc).2; omega, a1.1⟩
  obtain ⟨e1, e2⟩ := sum_same (fun b => ndSize (nodeAt h b)) b1.1 hnd hmem
  rw [b4, a4, b5, a5, e1, e2]
  refine ⟨?_, rfl⟩
  rw [List.map_cons, List.sum_cons, hnew]
  have : (ordF g).map (fun b => ndSize (nodeAt h b)) = (ordF g).map (fun b => ndSize (nodeAt g b)) := by
    refine List.map_congr_left fun b hb => ?_
    rw [hold b (a1.2 b hb).1 (a1.2 b hb).2]
  rw [this]
  omega

end Go.Proofs.YtbelbhdhcgpcpaaDoor.Gr
