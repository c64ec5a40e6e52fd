/- Peak's closure: the most cells so far. -/
import Derived.Test.YteminkohgagedaaGreatQMoTopZ
import Derived.Lib.AppendZerosOnto
import Derived.LoopN
namespace Go.Proofs.YteminkohgagedaaGreat.Mo
open Go.RowKit Go.Proofs.YteminkohgagedaaGreat.Base Go.Proofs.YteminkohgagedaaGreat.Gr Go.Proofs.YteminkohgagedaaGreat.Ver
set_option linter.unusedVariables false
set_option linter.unusedSimpArgs false

set_option maxRecDepth 100000 in
set_option maxHeartbeats 2000000 in
theorem grow_nil (n : Nat) (h0 : 0 < n) (hn : n ≤ 1000) (w : World) : Calls Tryz.prog 105 #[.slice none 0 0, .int .i64 (n : Int)] w fun e w' => ∃ cap, e = .returned (.slice (some ⟨w.heap.size, 0, none⟩) 0 cap) ∧ w'.ownsRow w.heap.size 3 1 (.slice (some ⟨w.heap.size, 0, none⟩) 0 cap) 0 [] ∧ Below w.heap.size w w' := by
  obtain ⟨i0, hi0, hz0, hz1, hz2⟩ := info_parts1 intInfo
  have hfit : Builtin.nextslicecap (0 + n) 0 * i0.bytes ≤ 281474976710656 := by
    rw [hz2]
    have : Builtin.nextslicecap (0 + n) 0 = 0 + n := by
      unfold Builtin.nextslicecap
      simp
      omega
    omega
  have hr := fun ty => Lib.run_append_grow_zeros (P := Tryz.prog) w 22 3 ty 3 i0 (.int .i64 0) .i64 .i64 Tryz.underlying22 Tryz.underlying3 hi0 hz0 none 0 0 [] (run_firstCells_none _ _ _ _ _) n h0 (by omega) (by omega) (by omega) (by rw [hz2]; omega) hfit
  have hp : (0 : Int) < n := by omega
  have hH := Lib.hid hr
  clear hfit hr
  go_enter Tryz.func105, Tryz.ntmps105
  go_wp2_with (first | (at_builtin; refine Lib.wpList_append_run _ rfl _ _ _ _ rfl _ _ rfl rfl _ _ (hH.out _) ?_))
  go_ret
  have hge := grownCap_ge w n 0 3
  have hle := grownCap_le_maxLen w n 0 3 (by simp only [maxLen]; omega)
  have hz : (Builtin.zeroCells #[Value.int IntKind.i64 0] n ++ Builtin.zeroCells #[Value.int IntKind.i64 0] (grownCap w n 0 3 - n)).size = grownCap w n 0 3 * 1 := by
    rw [Array.size_append, size_zeroCells, size_zeroCells]
    simp
    omega
  refine ⟨grownCap w n 0 3, rfl, ?_, below_drewN (below_1 _ _) 1⟩
  exact World.ownsRow_made (e := 3) (size := 1) w _ _ (Nat.le_refl _) hle hz

/-- slices.Concat of two lists, not both empty. -/
def Pair (w : World) (p : Nat) (A : Option Addr) (a c : Nat) (B : Option Addr) (b d : Nat) : Prop := Blk w p 22 #[.slice A a c, .slice B b d]
set_option maxRecDepth 100000 in
set_option maxHeartbeats 4000000 in
theorem concat_any (A B : Option Addr) (l m : List Int) (c d : Nat) (p : Nat) (w : World) (hl : Ints w A l) (hm : Ints w B m) (h0 : 0 < l.length) (h1 : l.length ≤ 400) (h2 : m.length ≤ 400) (hp : Pair w p A l.length c B m.length d) :
    Calls Tryz.prog 80 #[.slice (some ⟨p, 0, none⟩) 2 2] w fun e w' => ∃ v, e = .returned v ∧ w'.ownsRow w.heap.size 3 1 v (l ++ m).length (enc ic (l ++ m)) ∧ Below w.heap.size w w' := by
  obtain ⟨i0, hi0, hz0, hz1, hz2⟩ := info_parts1 intInfo
  have c0 := hp.cell 0
  have c1 := hp.cell 1
  have zp := hp.lt
  simp only [List.getElem?_toArray, List.getElem?_cons_zero, List.getElem?_cons_succ] at c0 c1
  have HL := Lib.hid hl
  have HM := Lib.hid hm
  have HP := Lib.hid hp
  have KG := Lib.hid (grow_nil (l.length + m.length) (by omega) (by omega) w)
  have hcast : ((l.length + m.length : Nat) : Int) = (l.length : Int) + m.length := by omega
  rw [hcast] at KG
  clear hl hm hp hcast
  go_enter Tryz.func80, Tryz.ntmps80
  go_wp2_with fail
  refine wp_loop_rounds 3 ?_
  repeat any_goals (rw [rounds_succ]; go_wp2_with fail)
  refine KG.out.mono ?_
  rintro e w1 ⟨cap, rfl, hown, hb⟩
  have HO := Lib.hid hown
  have HB := Lib.hid hb
  have e0 := (hb.cell (p := ⟨p, 0, none⟩) zp).trans c0
  have e1 := (hb.cell (p := ⟨p, 1, none⟩) zp).trans c1
  have hz1' := hb.size
  clear hown hb KG
  go_wp2_with fail
  refine wp_loop_rounds 3 ?_
  rw [rounds_succ]
  go_wp2_with (first
    | (at_builtin
       refine wpList_append_any _ rfl (.tmp 31) (.tmp 32) _ rfl w.heap.size 3 i0 _ 1 8 Tryz.underlying22 hi0 hz0 hz1 hz2 rfl (by omega) (.slice (some ⟨w.heap.size, 0, none⟩) 0 cap) 0 [] rfl HO.out A l.length c (enc ic l) rfl (HL.out.below HB.out).1 (ic_one l) (fun e => Arr.len (HL.out).1 ic_len (by omega) e) (by simp only [maxLen]; omega) (by omega) hz1' ?_
       intro v2 w2 hown2 hg2 hat2
       obtain ⟨A2, c2, rfl, hc2⟩ := own_form hown2
       have HO2 := Lib.hid hown2
       have HB2 := Lib.hid (Below.grown HB.out hg2 hz1' (fun b hb => by have := own_block HO.out b hb; exact this.1))
       have f1 := (HB2.out.cell (p := ⟨p, 1, none⟩) zp).trans c1
       have hz2' := HB2.out.size
       clear hown2 hg2 hat2))
  rw [rounds_succ]
  go_wp2_with (first
    | (at_builtin
       refine wpList_append_any _ rfl (.tmp 31) (.tmp 32) _ rfl w.heap.size 3 i0 _ 1 8 Tryz.underlying22 hi0 hz0 hz1 hz2 rfl (by omega) (.slice A2 (0 + l.length) c2) (0 + l.length) ([] ++ enc ic l) (by simp [Act.eval]) HO2.out B m.length d (enc ic m) rfl (HM.out.below HB2.out).1 (ic_one m) (fun e => Arr.len (HM.out).1 ic_len (by omega) e) (by simp only [maxLen]; omega) (by omega) hz2' ?_
       intro v3 w3 hown3 hg3 hat3
       obtain ⟨A3, c3, rfl, hc3⟩ := own_form hown3
       have HO3 := Lib.hid hown3
       have HB3 := Lib.hid (Below.grown HB2.out hg3 hz2' (fun b hb => by have := own_block HO2.out b hb; exact this.1))
       clear hown3 hg3 hat3))
  rw [rounds_succ]
  go_wp2_with fail
  go_ret
  refine ⟨_, rfl, ?_, HB3.out⟩
  have h := HO3.out
  rw [List.nil_append, ← enc_append] at h
  simpa using h

end Go.Proofs.YteminkohgagedaaGreat.Mo
namespace Go.Proofs.YteminkohgagedaaGreat.Mo
open Go.RowKit Go.Proofs.YteminkohgagedaaGreat.Base Go.Proofs.YteminkohgagedaaGreat.Gr Go.Proofs.YteminkohgagedaaGreat.Ver
set_option linter.unusedVariables false
set_option linter.unusedSimpArgs false

theorem canonGo_small {g : Gr} (hg : ∀ x ∈ g.nodes, x.slots.length ≤ 15 ∧ x.words.length ≤ 30) (f : Nat) : ∀ (i : Nat) (o : List Int) (out : List Nd), (∀ x ∈ out, x.slots.length ≤ 15 ∧ x.words.length ≤ 30) →
    (∀ x ∈ canonGo g f i o out, x.slots.length ≤ 15 ∧ x.words.length ≤ 30) ∧ (canonGo g f i o out).length ≤ out.length + f := by
  induction f with
  | zero => exact fun i o out ho => ⟨ho, Nat.le_refl _⟩
  | succ f ih =>
    intro i o out ho
    unfold canonGo
    by_cases h : i < o.length
    · rw [dif_pos h]
      have hn : (nodeAt g o[i]).slots.length ≤ 15 ∧ (nodeAt g o[i]).words.length ≤ 30 := by
        unfold nodeAt
        rw [List.getD_eq_getElem?_getD]
        cases e : g.nodes[o[i].toNat - 1]? with
        | none => exact ⟨Nat.zero_le _, Nat.zero_le _⟩
        | some y => exact hg y (List.mem_of_getElem? e)
      have h2 := ih (i + 1) (meet o (nodeAt g o[i]).slots).1 (out ++ [⟨(meet o (nodeAt g o[i]).slots).2, (nodeAt g o[i]).words⟩]) (fun x hx => by
        simp only [List.mem_append, List.mem_singleton] at hx
        rcases hx with hx | rfl
        · exact ho x hx
        · exact ⟨by show (meet o (nodeAt g o[i]).slots).2.length ≤ 15; rw [meet_len]; exact hn.1, hn.2⟩)
      refine ⟨h2.1, ?_⟩
      have := h2.2
      rw [List.length_append, List.length_singleton] at this
      omega
    · rw [dif_neg h]
      exact ⟨ho, by omega⟩
theorem number_small {g : Gr} (hg : ∀ x ∈ g.nodes, x.slots.length ≤ 15 ∧ x.words.length ≤ 30) : (∀ x ∈ (number g).nodes, x.slots.length ≤ 15 ∧ x.words.length ≤ 30) ∧ (number g).nodes.length ≤ g.nodes.length + 1 := by
  have := canonGo_small hg (g.nodes.length + 1) 0 (meet [] g.roots).1 [] (fun x hx => by cases hx)
  simpa [number] using this
/-- Cells that are reached from the roots and from more. -/
def reach (g : Gr) (more : List Int) : Nat := cells (number ⟨g.roots ++ more, g.nodes⟩).nodes

set_option maxRecDepth 100000 in
set_option maxHeartbeats 4000000 in
theorem reached_any {w : World} {o : Nat → Tag} {B hp N : Nat} {now last : Gr} (h : HM w o B hp now last) (hs : Sound N now) (hN : N ≤ 90000) (Ar : Option Addr) (refs : List Int) (cr : Nat) (hr : Ints w Ar refs) (hrn : named refs now.nodes.length = true) (hrl : refs.length ≤ 4) :
    Calls Tryz.prog 33 #[.pointer (some ⟨hp, 0, none⟩), .slice Ar refs.length cr] w fun e w' => e = .returned (.int .i64 (reach now refs)) ∧ Below w.heap.size w w' := by
  obtain ⟨A, c, D, d, xs, A', c', D', d', xs', h⟩ := h
  have hsz := hs.size
  have hsr := hs.roots
  have HI := Lib.hid (h.now.roots.ints (by omega))
  have HN := Lib.hid (h.now.nodes.reads (by omega) (sound_small hs))
  have HR := Lib.hid hr
  obtain ⟨c0, c1, _, _⟩ := h.cells
  have zh := h.blk.lt
  have zh1 : hp < w.heap.size + 1 := by omega
  obtain ⟨L, hL⟩ : ∃ L, now.roots ++ refs = L := ⟨_, rfl⟩
  have hLn : named L now.nodes.length = true := by
    rw [← hL, named_iff]
    intro a ha
    rcases List.mem_append.1 ha with h1 | h1
    · exact named_iff.1 hs.named a h1
    · exact named_iff.1 hrn a h1
  have HLL : Hid (L.length ≤ 12) := by
    show _ ≤ _
    rw [← hL, List.length_append]
    omega
  have HNN := Lib.hid (number_small (g := ⟨L, now.nodes⟩) (show ∀ x ∈ now.nodes, _ from sound_small hs))
  have hF := field_nodes
  have HX := Lib.hid (show reach now refs = cells (number ⟨L, now.nodes⟩).nodes by rw [← hL]; rfl)
  have HC := Lib.hid hL
  generalize reach now refs = X at HX ⊢
  have HNM := Lib.hid hLn
  clear hLn hL
  have HND := Lib.hid hs.nodes
  have HSR := Lib.hid hsr
  clear h hs hr hrn hsr
  go_enter Tryz.func33, Tryz.ntmps33
  go_wp2_with fail
  go_region_held3 (fun W => W.cell? ⟨hp, 0, none⟩ = some (.slice A now.roots.length c) ∧ W.cell? ⟨hp, 1, none⟩ = some (.slice D now.nodes.length d))
    (first
      | exact hcs
      | go_keep)
    (first
      | (go_at_call 79; revert hV; intro hV; refine (cells_any _ _ _ _ hV (Nat.le_trans HNN.out.2 (show now.nodes.length + 1 ≤ 100000 by omega)) HNN.out.1).mono ?_; rintro e w4 ⟨rfl, hb4⟩; have hcs := (show w4.cell? ⟨hp, 0, none⟩ = some (.slice A now.roots.length c) ∧ w4.cell? ⟨hp, 1, none⟩ = some (.slice D now.nodes.length d) from ⟨(hb4.cell (cell_lt hcs.1)).trans hcs.1, (hb4.cell (cell_lt hcs.2)).trans hcs.2⟩); have HB4 := Lib.hid (below_then HB3.out hb4))
      | (go_at_call 29; revert hI2; intro hI2; refine (number_wide A2 D ⟨L, now.nodes⟩ c2 d _ (by have := HLL.out; show L.length ≤ 64; omega) (show now.nodes.length ≤ 100000 by omega) HNM.out HND.out hI2.out (HN.out.below HB2.out)).mono ?_; rintro e w3 ⟨v, rfl, hV', hb3⟩; obtain ⟨A3, c3, D3, d3, rfl, -, hV⟩ := hV'.now; have hcs := (show w3.cell? ⟨hp, 0, none⟩ = some (.slice A now.roots.length c) ∧ w3.cell? ⟨hp, 1, none⟩ = some (.slice D now.nodes.length d) from ⟨(hb3.cell (cell_lt hcs.1)).trans hcs.1, (hb3.cell (cell_lt hcs.2)).trans hcs.2⟩); have HB3 := Lib.hid (below_then HB2.out hb3))
      | (go_at_call 80; refine (concat_any A Ar now.roots refs c cr w.heap.size _ (HI.out.below (below_drewN (below_1 w _) 1)) (HR.out.below (below_drewN (below_1 w _) 1)) (by have := HSR.out; omega) (by have := HSR.out; omega) (by omega) ((Blk.new w _ _).drewN 1)).mono ?_; rintro e w2 ⟨v, rfl, hown, hb2⟩; rw [HC.out] at hown; obtain ⟨A2, c2, rfl, hc2⟩ := own_form hown; have hI2 := Lib.hid (Ints.of_own hown (by have := HLL.out; omega)); have HB2 := Lib.hid (below_then (below_drewN (below_1 w _) 1) hb2); have hcs := (show w2.cell? ⟨hp, 0, none⟩ = some (.slice A now.roots.length c) ∧ w2.cell? ⟨hp, 1, none⟩ = some (.slice D now.nodes.length d) from ⟨(HB2.out.cell zh).trans c0, (HB2.out.cell zh).trans c1⟩); clear hown hb2))
  go_wp2_with fail
  go_ret
  exact ⟨by rw [HX.out]; rfl, HB4.out⟩

end Go.Proofs.YteminkohgagedaaGreat.Mo
namespace Go.Proofs.YteminkohgagedaaGreat.Mo
open Go.RowKit Go.Proofs.YteminkohgagedaaGreat.Base Go.Proofs.YteminkohgagedaaGreat.Gr Go.Proofs.YteminkohgagedaaGreat.Ver
set_option linter.unusedVariables false
set_option linter.unusedSimpArgs false

set_option maxRecDepth 100000 in
set_option maxHeartbeats 4000000 in
theorem peak1_any {w : World} {o : Nat → Tag} {B hp pm pq N : Nat} {now last : Gr} (most : Nat) (h : HM w o B hp now last) (hs : Sound N now) (hN : N ≤ 90000) (Ar : Option Addr) (refs : List Int) (cr : Nat) (hr : Ints w Ar refs) (hrn : named refs now.nodes.length = true) (hrl : refs.length ≤ 4)
    (hm : Blk w pm 3 #[.int .i64 (most : Int)]) (hq : Blk w pq 64 #[.pointer (some ⟨hp, 0, none⟩)]) :
    Calls Tryz.prog 34 #[.slice Ar refs.length cr, .pointer (some ⟨pm, 0, none⟩), .pointer (some ⟨pq, 0, none⟩)] w fun e w' => e = .returned (.tuple #[]) ∧ Blk w' pm 3 #[.int .i64 ((max most (reach now refs) : Nat) : Int)] ∧ Mod (fun k => k = pm) w w' := by
  have c0 := hm.cell 0
  have c1 := hq.cell 0
  have zm := hm.lt
  have zq := hq.lt
  simp only [List.getElem?_toArray, List.getElem?_cons_zero] at c0 c1
  have K := reached_any (h.below (below_drewN (Below.refl _ _) 1)) hs hN Ar refs cr (hr.below (below_drewN (Below.refl _ _) 1)) hrn hrl
  generalize reach now refs = X at K ⊢
  have HK := Lib.hid K
  have HM := Lib.hid hm
  clear h hs hr hrn hm hq K
  by_cases hx : most < X
  · have hx1 : (most : Int) < (X : Int) := by omega
    have HE := Lib.hid (show max most X = X by omega)
    go_enter Tryz.func34, Tryz.ntmps34
    go_wp2_with fail
    go_region_law ((try go_simp); go_at_call 33; refine HK.out.mono ?_; rintro e w2 ⟨rfl, hb2⟩; have HB2 := Lib.hid (below_then (below_drewN (Below.refl _ w) 1) hb2); have hm2 := HM.out.below HB2.out HM.out.lt; have HM2 := Lib.hid hm2; have d0 := hm2.cell 0; have d1 := hm2.frozen 0; have d2 := hm2.lt; simp only [List.getElem?_toArray, List.getElem?_cons_zero] at d0; clear hb2 hm2)
    all_goals
      go_wp2
      refine bodyPost_end (results_none rfl _ _ _) rfl ⟨rfl, ?_, mod_set' (S := fun k => k = pm) (Mod.of_below HB2.out) rfl _⟩
      rw [HE.out]
      exact HM2.out.set_ 0 _
  · have hx1 : ¬ ((most : Int) < (X : Int)) := by omega
    have HE := Lib.hid (show max most X = most by omega)
    go_enter Tryz.func34, Tryz.ntmps34
    go_wp2_with fail
    go_region_law ((try go_simp); go_at_call 33; refine HK.out.mono ?_; rintro e w2 ⟨rfl, hb2⟩; have HB2 := Lib.hid (below_then (below_drewN (Below.refl _ w) 1) hb2); have hm2 := HM.out.below HB2.out HM.out.lt; have HM2 := Lib.hid hm2; have d0 := hm2.cell 0; have d1 := hm2.frozen 0; have d2 := hm2.lt; simp only [List.getElem?_toArray, List.getElem?_cons_zero] at d0; clear hb2 hm2)
    all_goals
      go_wp2
      refine bodyPost_end (results_none rfl _ _ _) rfl ⟨rfl, ?_, mod_set' (S := fun k => k = pm) (Mod.of_below HB2.out) rfl _⟩
      rw [HE.out]
      exact HM2.out.set_ 0 _

end Go.Proofs.YteminkohgagedaaGreat.Mo
