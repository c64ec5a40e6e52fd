/- graph.Same, graph.Size. -/
import Derived.Test.YtbelbhdhcgpcpaaGreatDoorGrTop
import Derived.Deep.RegionLaw
import Derived.Test.YtbelbhdhcgpcpaaGreatDoorGrBoxes
namespace Go.Proofs.YtbelbhdhcgpcpaaGreatDoor.Gr
open Go.RowKit Go.Proofs.YtbelbhdhcgpcpaaGreatDoor.Base
set_option linter.unusedVariables false
set_option linter.unusedSimpArgs false

theorem same_right {w w1 W' : World} {p : Nat} {v1 v2 v3 v4 : Value} (A D : Option Addr) (g : Gr) (c d : Nat) (hA : Ints w A g.roots) (hD : Nodes w D g.nodes) (hl : Like w1 W') (hB : Below w.heap.size w w1) (hX : Boxes w1 p v1 v2 v3 v4) :
    Calls Tryz.prog 14 #[.agg #[.slice A g.roots.length c, .slice D g.nodes.length d]] W' fun e w' => e = .returned (.bool (right g)) ∧
      (w'.cell? ⟨p, 0, none⟩ = some v1 ∧ w'.cell? ⟨p, 1, none⟩ = some v2 ∧ w'.cell? ⟨p + 1, 0, none⟩ = some v3 ∧ w'.cell? ⟨p + 1, 1, none⟩ = some v4) ∧ Hid (Boxes w' p v1 v2 v3 v4) ∧ Hid (Below w.heap.size w w') := by
  refine (right_any A D g c d W' (hA.below (below_like hB hl)) (hD.below (below_like hB hl))).mono ?_
  rintro e w' ⟨rfl, hb⟩
  have hb' : Below w1.heap.size w1 w' := by have := like_below hl hb; rw [hl.heap] at this; exact this
  exact ⟨rfl, (hX.below hb').cells, hX.below hb', below_then hB hb'⟩
theorem same_canon {w w1 W' : World} {p : Nat} {v1 v2 v3 v4 : Value} (A D : Option Addr) (g : Gr) (c d : Nat) (hr : right g = true) (hA : Ints w A g.roots) (hD : Nodes w D g.nodes) (hl : Like w1 W') (hB : Below w.heap.size w w1) (hX : Boxes w1 p v1 v2 v3 v4) :
    Calls Tryz.prog 11 #[.agg #[.slice A g.roots.length c, .slice D g.nodes.length d]] W' fun e w' => ∃ A1 c1 D1 d1, e = .returned (.agg #[.slice A1 (canon g).roots.length c1, .slice D1 (canon g).nodes.length d1]) ∧
      (w'.cell? ⟨p, 0, none⟩ = some v1 ∧ w'.cell? ⟨p, 1, none⟩ = some v2 ∧ w'.cell? ⟨p + 1, 0, none⟩ = some v3 ∧ w'.cell? ⟨p + 1, 1, none⟩ = some v4) ∧ Hid (Boxes w' p v1 v2 v3 v4) ∧ Hid (Below w.heap.size w w') ∧ Hid (Ints w' A1 (canon g).roots ∧ Nodes w' D1 (canon g).nodes) ∧ Hid (Below w1.heap.size w1 w') := by
  refine (canon_any A D g c d W' hr (hA.below (below_like hB hl)) (hD.below (below_like hB hl))).mono ?_
  rintro e w' ⟨v, rfl, hV, hb⟩
  have hb' : Below w1.heap.size w1 w' := by have := like_below hl hb; rw [hl.heap] at this; exact this
  obtain ⟨A1, c1, D1, d1, rfl, h1, h2⟩ := hV.now
  exact ⟨A1, c1, D1, d1, rfl, (hX.below hb').cells, hX.below hb', below_then hB hb', ⟨h1, h2⟩, hb'⟩
theorem same_alike {w w1 W' : World} (A B C D : Option Addr) (g h : Gr) (a b c d : Nat) (hl : Like w1 W') (hB : Below w.heap.size w w1) (h1 : Ints w1 A g.roots ∧ Nodes w1 B g.nodes) (h2 : Ints w1 C h.roots ∧ Nodes w1 D h.nodes) :
    Calls Tryz.prog 16 #[.agg #[.slice A g.roots.length a, .slice B g.nodes.length b], .agg #[.slice C h.roots.length c, .slice D h.nodes.length d]] W' fun e w' => e = .returned (.bool (decide (g = h))) ∧ Hid (Below w.heap.size w w') := by
  have hb : Below w1.heap.size w1 W' := below_like (Below.refl _ _) hl
  refine (alikeg_any A B C D g h a b c d W' (h1.1.below hb) (h1.2.below hb) (h2.1.below hb) (h2.2.below hb)).mono ?_
  rintro e w' ⟨rfl, hb2⟩
  exact ⟨rfl, (below_like hB hl).trans (hb2.mono (by rw [hl.heap]; exact hB.size))⟩

set_option maxRecDepth 100000 in
set_option maxHeartbeats 4000000 in
theorem same_any (A B C D : Option Addr) (g h : Gr) (a b c d : Nat) (w : World) (hA : Ints w A g.roots) (hB : Nodes w B g.nodes) (hC : Ints w C h.roots) (hD : Nodes w D h.nodes) :
    Calls Tryz.prog 15 #[.agg #[.slice A g.roots.length a, .slice B g.nodes.length b], .agg #[.slice C h.roots.length c, .slice D h.nodes.length d]] w fun e w' => e = .returned (.bool (same g h)) ∧ Below w.heap.size w w' := by
  have HX0 := Lib.hid (Boxes.new w (.slice A g.roots.length a) (.slice B g.nodes.length b) (.slice C h.roots.length c) (.slice D h.nodes.length d))
  have HB0 := Lib.hid (box_zero w #[.slice A g.roots.length a, .slice B g.nodes.length b] 25 (.cells #[.slice C h.roots.length c, .slice D h.nodes.length d] 25))
  have HR1 := Lib.hid (fun (w1 W' : World) (hl : Like w1 W') hb hx => same_right (w := w) (w1 := w1) (W' := W') (p := w.heap.size) (v1 := .slice A g.roots.length a) (v2 := .slice B g.nodes.length b) (v3 := .slice C h.roots.length c) (v4 := .slice D h.nodes.length d) A B g a b hA hB hl hb hx)
  have HR2 := Lib.hid (fun (w1 W' : World) (hl : Like w1 W') hb hx => same_right (w := w) (w1 := w1) (W' := W') (p := w.heap.size) (v1 := .slice A g.roots.length a) (v2 := .slice B g.nodes.length b) (v3 := .slice C h.roots.length c) (v4 := .slice D h.nodes.length d) C D h c d hC hD hl hb hx)
  have HC1 := Lib.hid (fun hr (w1 W' : World) (hl : Like w1 W') hb hx => same_canon (w := w) (w1 := w1) (W' := W') (p := w.heap.size) (v1 := .slice A g.roots.length a) (v2 := .slice B g.nodes.length b) (v3 := .slice C h.roots.length c) (v4 := .slice D h.nodes.length d) A B g a b hr hA hB hl hb hx)
  have HC2 := Lib.hid (fun hr (w1 W' : World) (hl : Like w1 W') hb hx => same_canon (w := w) (w1 := w1) (W' := W') (p := w.heap.size) (v1 := .slice A g.roots.length a) (v2 := .slice B g.nodes.length b) (v3 := .slice C h.roots.length c) (v4 := .slice D h.nodes.length d) C D h c d hr hC hD hl hb hx)
  have HS := Lib.hid (show same g h = (right g && right h && decide (canon g = canon h)) from rfl)
  obtain ⟨x1, x2, x3, x4⟩ := HX0.out.cells
  clear hA hB hC hD
  cases hg : right g
  · have HG := Lib.hid hg
    rw [hg] at HS
    clear hg HC1 HC2 HR2
    go_enter Tryz.func15, Tryz.ntmps15
    go_wp2_with fail
    go_region_law (
        ((try go_simp)
         go_at_call 14
         refine (HR1.out _ _ ?_ HB0.out HX0.out).mono ?_
         (first | exact like_self _ | exact like_drew (like_self _) | exact like_drew (like_drew (like_self _)))
         rw [HG.out]
         rintro e w1 ⟨rfl, ⟨y1, y2, y3, y4⟩, HX1, HB1⟩))
    all_goals
      go_wp2
      go_ret
      refine ⟨?_, HB1.out⟩
      rw [HS.out]
      rfl
  · have HG := Lib.hid hg
    rw [hg] at HS
    cases hh : right h
    · have HH := Lib.hid hh
      rw [hh] at HS
      clear hg hh HC1 HC2
      go_enter Tryz.func15, Tryz.ntmps15
      go_wp2_with fail
      go_region_law (first
        | ((try go_simp)
           go_at_call 14
           revert HB1; intro HB1
           refine (HR2.out w1 _ ?_ HB1.out HX1.out).mono ?_
           (first | exact like_self _ | exact like_drew (like_self _) | exact like_drew (like_drew (like_self _)))
           rw [HH.out]
           rintro e w2 ⟨rfl, ⟨z1, z2, z3, z4⟩, HX2, HB2⟩)
        | ((try go_simp)
           go_at_call 14
           refine (HR1.out _ _ ?_ HB0.out HX0.out).mono ?_
           (first | exact like_self _ | exact like_drew (like_self _) | exact like_drew (like_drew (like_self _)))
           rw [HG.out]
           rintro e w1 ⟨rfl, ⟨y1, y2, y3, y4⟩, HX1, HB1⟩))
      all_goals
        go_wp2
        go_ret
        refine ⟨?_, HB2.out⟩
        rw [HS.out]
        rfl
    · have HH := Lib.hid hh
      rw [hh] at HS
      have HC1' := Lib.hid (HC1.out hg)
      have HC2' := Lib.hid (HC2.out hh)
      clear hg hh HC1 HC2
      go_enter Tryz.func15, Tryz.ntmps15
      go_wp2_with fail
      go_region_law (first
        | ((try go_simp)
           go_at_call 16
           refine (same_alike _ _ _ _ (canon g) (canon h) _ _ _ _ (w1 := w4) ?_ HB4.out ⟨HV3.out.1.below HL4.out, HV3.out.2.below HL4.out⟩ HV4.out).mono ?_
           (first | exact like_self _ | exact like_drew (like_self _) | exact like_drew (like_drew (like_self _)))
           rintro e w5 ⟨rfl, HB5⟩)
        | ((try go_simp)
           go_at_call 11
           revert HB3; intro HB3
           refine (HC2'.out w3 _ ?_ HB3.out HX3.out).mono ?_
           (first | exact like_self _ | exact like_drew (like_self _) | exact like_drew (like_drew (like_self _)))
           rintro e w4 ⟨A4, a4, D4, d4, rfl, ⟨s1, s2, s3, s4⟩, HX4, HB4, HV4, HL4⟩)
        | ((try go_simp)
           go_at_call 11
           refine (HC1'.out w2 _ ?_ HB2.out HX2.out).mono ?_
           (first | exact like_self _ | exact like_drew (like_self _) | exact like_drew (like_drew (like_self _)))
           rintro e w3 ⟨A3, a3, D3, d3, rfl, ⟨r1, r2, r3, r4⟩, HX3, HB3, HV3, HL3⟩)
        | ((try go_simp)
           go_at_call 14
           revert HB1; intro HB1
           refine (HR2.out w1 _ ?_ HB1.out HX1.out).mono ?_
           (first | exact like_self _ | exact like_drew (like_self _) | exact like_drew (like_drew (like_self _)))
           rw [HH.out]
           rintro e w2 ⟨rfl, ⟨z1, z2, z3, z4⟩, HX2, HB2⟩)
        | ((try go_simp)
           go_at_call 14
           refine (HR1.out _ _ ?_ HB0.out HX0.out).mono ?_
           (first | exact like_self _ | exact like_drew (like_self _) | exact like_drew (like_drew (like_self _)))
           rw [HG.out]
           rintro e w1 ⟨rfl, ⟨y1, y2, y3, y4⟩, HX1, HB1⟩))
      all_goals
        go_wp2
        go_ret
        refine ⟨?_, HB5.out⟩
        rw [HS.out]
        simp only [Bool.true_and]
        rfl

/-- A numbered form is of the same measure. -/
theorem meet_le (o l : List Int) (n : Nat) (ho : Ord o n) (hl : named l n = true) : ∀ v ∈ (meet o l).2, 0 ≤ v ∧ v ≤ n := by
  induction l generalizing o with
  | nil => intro v hv; cases hv
  | cons a l ih =>
    rw [named_cons] at hl
    have h1 := ord_meet1 ho hl.1.1 hl.1.2
    intro v hv
    simp only [meet, List.mem_cons] at hv
    rcases hv with rfl | hv
    · have hz := ord_len ho
      have hz1 := ord_len h1
      unfold meet1 at hz1 ⊢
      by_cases h0 : a = 0
      · simp [h0]; 
      · by_cases hm : a ∈ o
        · simp only [h0, hm, if_true, if_false, placeOf]
          have : o.findIdx (· == a) < o.length := List.findIdx_lt_length_of_exists ⟨a, hm, by simp⟩
          omega
        · simp only [h0, hm, if_false, List.length_append, List.length_singleton] at hz1 ⊢
          omega
    · exact ih _ h1 hl.2 v hv
theorem canonGo_all {g : Gr} (hg : right g = true) (P : Nd → Prop) (hP : ∀ (o : List Int) (x : Nd), Ord o g.nodes.length → ndOk x g.nodes.length = true → P ⟨(meet o x.slots).2, x.words⟩) :
    ∀ (f i : Nat) (o : List Int) (out : List Nd), Ord o g.nodes.length → (∀ x ∈ out, P x) → ∀ x ∈ canonGo g f i o out, P x := by
  obtain ⟨h1, h2, h3, h4⟩ := right_parts hg
  intro f
  induction f with
  | zero => intro i o out _ hout; exact hout
  | succ f ih =>
    intro i o out ho hout
    rw [canonGo]
    split
    · rename_i hi
      have ha := ho.2 o[i] (List.getElem_mem hi)
      have hx : ndOk (nodeAt g o[i]) g.nodes.length = true := by
        rw [nodeAt_eq g o[i] ha.1 ha.2]
        exact h4 _ (List.getElem_mem _)
      refine ih _ _ _ (ord_meet ho (ndOk_parts hx).2.2.2) ?_
      intro x hx'
      rw [List.mem_append, List.mem_singleton] at hx'
      rcases hx' with hx' | rfl
      · exact hout x hx'
      · exact hP _ _ ho hx
    · exact hout
theorem canonGo_len (g : Gr) : ∀ (f i : Nat) (o : List Int) (out : List Nd), (canonGo g f i o out).length ≤ out.length + f := by
  intro f
  induction f with
  | zero => intro i o out; simp [canonGo]
  | succ f ih =>
    intro i o out
    rw [canonGo]
    split
    · have := ih (i + 1) (meet o (nodeAt g o[i]).slots).1 (out ++ [⟨(meet o (nodeAt g o[i]).slots).2, (nodeAt g o[i]).words⟩])
      simp only [List.length_append, List.length_singleton] at this
      omega
    · omega
theorem number_parts {g : Gr} (hg : right g = true) : (number g).roots.length = 8 ∧ (number g).nodes.length ≤ 1001 ∧ (∀ v ∈ (number g).roots, 0 ≤ v ∧ v ≤ 1000) ∧
    ∀ x ∈ (number g).nodes, x.slots.length ≤ 15 ∧ x.words.length ≤ 30 ∧ wordsOk x.words = true ∧ ∀ v ∈ x.slots, 0 ≤ v ∧ v ≤ 1000 := by
  obtain ⟨h1, h2, h3, h4⟩ := right_parts hg
  refine ⟨by simp [number, meet_len, h1], ?_, ?_, ?_⟩
  · have := canonGo_len g (g.nodes.length + 1) 0 (meet [] g.roots).1 []
    simp only [number, List.length_nil] at *
    omega
  · intro v hv
    have := meet_le [] g.roots g.nodes.length (ord_nil _) h3 v hv
    omega
  · refine canonGo_all hg (fun x => x.slots.length ≤ 15 ∧ x.words.length ≤ 30 ∧ wordsOk x.words = true ∧ ∀ v ∈ x.slots, 0 ≤ v ∧ v ≤ 1000) ?_ _ _ _ _ (ord_meet (ord_nil _) h3) (fun x h => by cases h)
    intro o x ho hx
    obtain ⟨p1, p2, p3, p4⟩ := ndOk_parts hx
    refine ⟨by simp [meet_len, p1], p2, p3, fun v hv => ?_⟩
    have := meet_le o x.slots g.nodes.length ho p4 v hv
    omega

set_option maxRecDepth 100000 in
set_option maxHeartbeats 4000000 in
theorem size_any (A B : Option Addr) (g : Gr) (a b : Nat) (w : World) (hA : Ints w A g.roots) (hB : Nodes w B g.nodes) :
    Calls Tryz.prog 17 #[.agg #[.slice A g.roots.length a, .slice B g.nodes.length b]] w fun e w' => e = .returned (.int .i64 (size g)) ∧ Below w.heap.size w w' := by
  have HA := Lib.hid hA
  have HB := Lib.hid hB
  have HS := Lib.hid (show size g = if right g then cells (canon g).nodes else 0 from rfl)
  clear hA hB
  cases hg : right g
  · have HG := Lib.hid hg
    rw [hg] at HS
    clear hg
    go_enter Tryz.func17, Tryz.ntmps17
    go_wp2_with fail
    have k := right_any A B g a b _ (HA.out.below (below_1 w (.cells #[.slice A g.roots.length a, .slice B g.nodes.length b] 25))) (HB.out.below (below_1 w (.cells #[.slice A g.roots.length a, .slice B g.nodes.length b] 25)))
    rw [HG.out] at k
    refine k.mono ?_
    rintro e w1 ⟨rfl, hb⟩
    have HB1 := Lib.hid (below_box hb)
    clear k hb
    go_wp2
    go_ret
    refine ⟨?_, HB1.out⟩
    rw [HS.out]
    rfl
  · have HG := Lib.hid hg
    rw [hg] at HS
    have hparts := number_parts hg
    rw [← canon_right hg] at hparts
    have HP := Lib.hid hparts
    clear hg hparts
    go_enter Tryz.func17, Tryz.ntmps17
    go_wp2_with fail
    have k := right_any A B g a b _ (HA.out.below (below_1 w (.cells #[.slice A g.roots.length a, .slice B g.nodes.length b] 25))) (HB.out.below (below_1 w (.cells #[.slice A g.roots.length a, .slice B g.nodes.length b] 25)))
    rw [HG.out] at k
    refine k.mono ?_
    rintro e w1 ⟨rfl, hb⟩
    have hK : Blk w1 w.heap.size 25 #[.slice A g.roots.length a, .slice B g.nodes.length b] := (Blk.new w _ _).below hb (by simp)
    have c0 := hK.cell 0
    have c1 := hK.cell 1
    simp only [List.getElem?_toArray, List.getElem?_cons_zero, List.getElem?_cons_succ] at c0 c1
    have HB1 := Lib.hid (below_box hb)
    clear k hb hK
    go_wp2_with fail
    refine (canon_any A B g a b w1 HG.out (HA.out.below HB1.out) (HB.out.below HB1.out)).mono ?_
    rintro e w2 ⟨v, rfl, hV, hb⟩
    obtain ⟨A2, c2, D2, d2, rfl, h1, h2⟩ := hV.now
    have H2 := Lib.hid h2
    have HB2 := Lib.hid (below_then HB1.out hb)
    have hF := field_nodes
    clear hV h1 h2 hb
    go_wp2_with fail
    refine (cells_any D2 (canon g).nodes d2 w2 H2.out (by have := HP.out.2.1; omega) (fun x hx => ⟨(HP.out.2.2.2 x hx).1, (HP.out.2.2.2 x hx).2.1⟩)).mono ?_
    rintro e w3 ⟨rfl, hb⟩
    have HB3 := Lib.hid (below_then HB2.out hb)
    clear hb
    go_wp2
    go_ret
    refine ⟨?_, HB3.out⟩
    rw [HS.out]
    rfl

end Go.Proofs.YtbelbhdhcgpcpaaGreatDoor.Gr
