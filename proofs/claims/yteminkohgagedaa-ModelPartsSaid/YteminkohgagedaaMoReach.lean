/- (*heap).reached: how many cells are reached from the roots and the registers. -/
import Derived.Test.YteminkohgagedaaMoGrow
namespace Go.Proofs.Yteminkohgagedaa.Mo
open Go.RowKit Go.Proofs.Yteminkohgagedaa.Base Go.Proofs.Yteminkohgagedaa.Gr Go.Proofs.Yteminkohgagedaa.Ver
set_option linter.unusedVariables false
set_option linter.unusedSimpArgs false

theorem canonGo_small {g : Gr} (hg : ∀ x ∈ g.nodes, x.slots.length ≤ 15 ∧ x.words.length ≤ 30) (f : Nat) : ∀ (i : Nat) (o : List Int) (out : List Nd), (∀ x ∈ out, x.slots.length ≤ 15 ∧ x.words.length ≤ 30) →
    (∀ x ∈ canonGo g f i o out, x.slots.length ≤ 15 ∧ x.words.length ≤ 30) ∧ (canonGo g f i o out).length ≤ out.length + f := by
  induction f with
  | zero => exact fun i o out ho => ⟨ho, Nat.le_refl _⟩
  | succ f ih =>
    intro i o out ho
    unfold canonGo
    by_cases h : i < o.length
    · rw [dif_pos h]
      have hn : (nodeAt g o[i]).slots.length ≤ 15 ∧ (nodeAt g o[i]).words.length ≤ 30 := by
        unfold nodeAt
        rw [List.getD_eq_getElem?_getD]
        cases e : g.nodes[o[i].toNat - 1]? with
        | none => exact ⟨Nat.zero_le _, Nat.zero_le _⟩
        | some y => exact hg y (List.mem_of_getElem? e)
      have h2 := ih (i + 1) (meet o (nodeAt g o[i]).slots).1 (out ++ [⟨(meet o (nodeAt g o[i]).slots).2, (nodeAt g o[i]).words⟩]) (fun x hx => by
        simp only [List.mem_append, List.mem_singleton] at hx
        rcases hx with hx | rfl
        · exact ho x hx
        · exact ⟨by show (meet o (nodeAt g o[i]).slots).2.length ≤ 15; rw [meet_len]; exact hn.1, hn.2⟩)
      refine ⟨h2.1, ?_⟩
      have := h2.2
      rw [List.length_append, List.length_singleton] at this
      omega
    · rw [dif_neg h]
      exact ⟨ho, by omega⟩
theorem number_small {g : Gr} (hg : ∀ x ∈ g.nodes, x.slots.length ≤ 15 ∧ x.words.length ≤ 30) : (∀ x ∈ (number g).nodes, x.slots.length ≤ 15 ∧ x.words.length ≤ 30) ∧ (number g).nodes.length ≤ g.nodes.length + 1 := by
  have := canonGo_small hg (g.nodes.length + 1) 0 (meet [] g.roots).1 [] (fun x hx => by cases hx)
  simpa [number] using this
/-- Cells that are reached from the roots and from more. -/
def reach (g : Gr) (more : List Int) : Nat := cells (number ⟨g.roots ++ more, g.nodes⟩).nodes

set_option maxRecDepth 100000 in
set_option maxHeartbeats 4000000 in
theorem reached_any {w : World} {o : Nat → Tag} {B hp N : Nat} {now last : Gr} (h : HM w o B hp now last) (hs : Sound N now) (hN : N ≤ 90000) (Ar : Option Addr) (refs : List Int) (cr : Nat) (hr : Ints w Ar refs) (hrn : named refs now.nodes.length = true) (hrl : refs.length ≤ 4) :
    Calls Try.prog 34 #[.pointer (some ⟨hp, 0, none⟩), .slice Ar refs.length cr] w fun e w' => e = .returned (.int .i64 (reach now refs)) ∧ Below w.heap.size w w' := by
  obtain ⟨A, c, D, d, xs, A', c', D', d', xs', h⟩ := h
  have hsz := hs.size
  have hsr := hs.roots
  have HI := Lib.hid (h.now.roots.ints (by omega))
  have HN := Lib.hid (h.now.nodes.reads (by omega) (sound_small hs))
  have HR := Lib.hid hr
  obtain ⟨c0, c1, _, _⟩ := h.cells
  have zh := h.blk.lt
  have zh1 : hp < w.heap.size + 1 := by omega
  obtain ⟨L, hL⟩ : ∃ L, now.roots ++ refs = L := ⟨_, rfl⟩
  have hLn : named L now.nodes.length = true := by
    rw [← hL, named_iff]
    intro a ha
    rcases List.mem_append.1 ha with h1 | h1
    · exact named_iff.1 hs.named a h1
    · exact named_iff.1 hrn a h1
  have HLL : Hid (L.length ≤ 12) := by
    show _ ≤ _
    rw [← hL, List.length_append]
    omega
  have HNN := Lib.hid (number_small (g := ⟨L, now.nodes⟩) (show ∀ x ∈ now.nodes, _ from sound_small hs))
  have hF := field_nodes
  have HX := Lib.hid (show reach now refs = cells (number ⟨L, now.nodes⟩).nodes by rw [← hL]; rfl)
  have HC := Lib.hid hL
  generalize reach now refs = X at HX ⊢
  have HNM := Lib.hid hLn
  clear hLn hL
  have HND := Lib.hid hs.nodes
  have HSR := Lib.hid hsr
  clear h hs hr hrn hsr
  go_enter Try.func34, Try.ntmps34
  go_wp2_with fail
  go_region_held3 (fun W => W.cell? ⟨hp, 0, none⟩ = some (.slice A now.roots.length c) ∧ W.cell? ⟨hp, 1, none⟩ = some (.slice D now.nodes.length d))
    (first
      | exact hcs
      | go_keep)
    (first
      | (go_at_call 45; revert hV; intro hV; refine (cells_any _ _ _ _ hV (Nat.le_trans HNN.out.2 (show now.nodes.length + 1 ≤ 100000 by omega)) HNN.out.1).mono ?_; rintro e w4 ⟨rfl, hb4⟩; have hcs := (show w4.cell? ⟨hp, 0, none⟩ = some (.slice A now.roots.length c) ∧ w4.cell? ⟨hp, 1, none⟩ = some (.slice D now.nodes.length d) from ⟨(hb4.cell (cell_lt hcs.1)).trans hcs.1, (hb4.cell (cell_lt hcs.2)).trans hcs.2⟩); have HB4 := Lib.hid (below_then HB3.out hb4))
      | (go_at_call 31; revert hI2; intro hI2; refine (number_wide A2 D ⟨L, now.nodes⟩ c2 d _ (by have := HLL.out; show L.length ≤ 64; omega) (show now.nodes.length ≤ 100000 by omega) HNM.out HND.out hI2.out (HN.out.below HB2.out)).mono ?_; rintro e w3 ⟨v, rfl, hV', hb3⟩; obtain ⟨A3, c3, D3, d3, rfl, -, hV⟩ := hV'.now; have hcs := (show w3.cell? ⟨hp, 0, none⟩ = some (.slice A now.roots.length c) ∧ w3.cell? ⟨hp, 1, none⟩ = some (.slice D now.nodes.length d) from ⟨(hb3.cell (cell_lt hcs.1)).trans hcs.1, (hb3.cell (cell_lt hcs.2)).trans hcs.2⟩); have HB3 := Lib.hid (below_then HB2.out hb3))
      | (go_at_call 46; refine (concat_any A Ar now.roots refs c cr w.heap.size _ (HI.out.below (below_drewN (below_1 w _) 1)) (HR.out.below (below_drewN (below_1 w _) 1)) (by have := HSR.out; omega) (by have := HSR.out; omega) (by omega) ((Blk.new w _ _).drewN 1)).mono ?_; rintro e w2 ⟨v, rfl, hown, hb2⟩; rw [HC.out] at hown; obtain ⟨A2, c2, rfl, hc2⟩ := own_form hown; have hI2 := Lib.hid (Ints.of_own hown (by have := HLL.out; omega)); have HB2 := Lib.hid (below_then (below_drewN (below_1 w _) 1) hb2); have hcs := (show w2.cell? ⟨hp, 0, none⟩ = some (.slice A now.roots.length c) ∧ w2.cell? ⟨hp, 1, none⟩ = some (.slice D now.nodes.length d) from ⟨(HB2.out.cell zh).trans c0, (HB2.out.cell zh).trans c1⟩); clear hown hb2))
  go_wp2_with fail
  go_ret
  exact ⟨by rw [HX.out]; rfl, HB4.out⟩

end Go.Proofs.Yteminkohgagedaa.Mo
