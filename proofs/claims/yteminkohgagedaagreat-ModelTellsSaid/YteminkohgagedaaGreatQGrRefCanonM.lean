/- flittingref16.Canon(g, more): the numbered form from the roots and from more. Printed by gen_refcanonm.py, a program of this work. -/
import Derived.Test.YteminkohgagedaaGreatQGrRefCanonW
namespace Go.Proofs.YteminkohgagedaaGreat.Gr
open Go.RowKit Go.Proofs.YteminkohgagedaaGreat.Base
set_option linter.unusedVariables false
set_option linter.unusedSimpArgs false

/-- What stands ahead of the order's loop. -/
def CutM (w0 wx : World) (base np op n : Nat) (g : Gr) (more : List Int) (u6 : Value) : Prop :=
  ∃ (AO : Option Addr) (cO : Nat) (AR : Option Addr) (cR : Nat), u6 = .slice AO (meet [] (g.roots ++ more)).1.length cO ∧ RA w0 wx base np op n (.slice AO (meet [] (g.roots ++ more)).1.length cO) (.slice AR (meet [] g.roots).2.length cR) (meet [] (g.roots ++ more)).1 (meet [] g.roots).2

set_option maxRecDepth 100000 in
set_option maxHeartbeats 8000000 in
theorem refcanonM_firm (A D M : Option Addr) (g : Gr) (more : List Int) (c d cm : Nat) (w : World) (hM : Ints w M more) (hmr : named more g.nodes.length = true) (hmn : more.length ≤ 64) (hA : Ints w A g.roots) (hD : Nodes w D g.nodes) (hr : named g.roots g.nodes.length = true) (hrl : g.roots.length ≤ 64) (hn : g.nodes.length ≤ 100000) (hx : ∀ x ∈ g.nodes, ndOk x g.nodes.length = true) :
    Calls Tryz.prog 39 #[.agg #[.slice A g.roots.length c, .slice D g.nodes.length d], .slice M more.length cm] w fun e w' => ∃ A' c' D' d', e = .returned (.agg #[.slice A' (canonM g more).roots.length c', .slice D' (canonM g more).nodes.length d']) ∧ Firm w.heap.size w' (.agg #[.slice A' (canonM g more).roots.length c', .slice D' (canonM g more).nodes.length d']) (canonM g more) ∧ Below w.heap.size w w' := by
  obtain ⟨i0, hi0, hz01, hz02, hz03⟩ := info_parts1 intInfo
  obtain ⟨i1, hi1, hz11, hz12, hz13⟩ := info_parts1 nodeInfo
  have hmk := make_ints (g.nodes.length + 1) (by omega)
  have hn63 : g.nodes.length + 1 ≤ 100001 := by omega
  rw [← places_nil, show ((g.nodes.length + 1 : Nat) : Int) = (g.nodes.length : Int) + 1 by omega] at hmk
  have HR := Lib.hid hr
  have HX := Lib.hid hx
  have HW4 : Hid (∃ W4, W4 = (((w.alloc (.cells #[.slice A g.roots.length c, .slice D g.nodes.length d] 25)).alloc (.cells #[.slice none 0 0, .slice none 0 0] 25)).alloc (.cells (places [] g.nodes.length) 3)).alloc (.cells #[.slice none 0 0, .slice none 0 0] 25)) := ⟨_, rfl⟩
  obtain ⟨W4, hW4⟩ := HW4.out
  have hb2 := box_zero w #[.slice A g.roots.length c, .slice D g.nodes.length d] 25 (.cells #[.slice none 0 0, .slice none 0 0] 25)
  have HG := Lib.hid (((Blk.new w 25 #[.slice A g.roots.length c, .slice D g.nodes.length d]).alloc (.cells #[.slice none 0 0, .slice none 0 0] 25)))
  have HA := Lib.hid (hA.below hb2)
  have HD := Lib.hid (hD.below hb2)
  have HM := Lib.hid (hM.below hb2)
  have HMR := Lib.hid hmr
  have HB2 := Lib.hid hb2
  obtain ⟨W2, hW2⟩ : ∃ W2, (w.alloc (.cells #[.slice A g.roots.length c, .slice D g.nodes.length d] 25)).alloc (.cells #[.slice none 0 0, .slice none 0 0] 25) = W2 := ⟨_, rfl⟩
  rw [hW2] at HG HA HD HM HB2 hW4
  have HT4 : Hid (Blk W2 (w.heap.size + 1) 25 #[.slice none 0 0, .slice none 0 0]) := Lib.hid (by rw [← hW2]; exact (by have := Blk.new (w.alloc (.cells #[.slice A g.roots.length c, .slice D g.nodes.length d] 25)) 25 #[.slice none 0 0, .slice none 0 0]; simpa using this))
  have hs2 : W2.heap.size = w.heap.size + 1 + 1 := by rw [← hW2]; simp
  obtain ⟨np, hnp⟩ : ∃ np, W2.heap.size = np := ⟨_, rfl⟩
  have HPL := Lib.hid (by have := (Blk.new W2 3 (places [] g.nodes.length)).alloc (.cells #[.slice none 0 0, .slice none 0 0] 25); rw [hnp, ← hW4] at this; exact this)
  have HOP : Hid (Blk W4 (np + 1) 25 #[.slice none 0 0, .slice none 0 0]) := Lib.hid (by rw [hW4]; have := Blk.new (W2.alloc (.cells (places [] g.nodes.length) 3)) 25 #[.slice none 0 0, .slice none 0 0]; simpa [hnp] using this)
  have HB4 := Lib.hid (show Below np W2 W4 from by rw [hW4, ← hnp]; exact below_then (below_1 _ _) (below_1 _ _))
  have g0 := HG.out.cell 0
  have g1 := HG.out.cell 1
  have zg := HG.out.lt
  simp only [List.getElem?_toArray, List.getElem?_cons_zero, List.getElem?_cons_succ] at g0 g1
  rw [hnp] at zg hs2
  have HS2 := Lib.hid hs2
  have hle : w.heap.size + 1 < np := by omega
  have hW4 := hW4.symm
  clear hs2
  clear hA hD hM hmr hr hx hb2 HW4
  go_enter Tryz.func39, Tryz.ntmps39
  go_wp2_with fail
  have HW := Lib.hid (And.intro hW2 (And.intro hnp hW4))
  clear hW2 hW4 hmk
  go_upto_block 0 with fail
  clear hnp
  go_cut [6] (fun u6 wx => Hid (CutM W2 wx np np (np + 1) g.nodes.length g more u6))
  case first =>
    go_wp2_with fail
    go_loopw [6, 8] (fun u6 i wr => ∃ (k r : Nat) (AO : Option Addr) (cO : Nat) (AR : Option Addr) (cR : Nat), k ≤ g.roots.length + more.length ∧ r = min k g.roots.length ∧ i = .int .i64 k ∧ u6 = .slice AO (meet [] ((g.roots ++ more).take k)).1.length cO ∧ Hid (RA W2 wr np np (np + 1) g.nodes.length (.slice AO (meet [] ((g.roots ++ more).take k)).1.length cO) (.slice AR r cR) (meet [] ((g.roots ++ more).take k)).1 (meet [] (g.roots.take r)).2)) (fun _ i _ => g.roots.length + more.length - (intOf i).toNat)
    case atStart =>
      refine ⟨0, 0, none, 0, none, 0, Nat.zero_le _, (Nat.zero_min _).symm, rfl, rfl, Lib.hid ?_⟩
      rw [HW.out.2.2]
      exact ⟨⟨HPL.out, own_nil _ _ _ _, by simp [Value.ownBlock]⟩, HOP.out, own_nil _ _ _ _, by simp [Value.ownBlock], fun k h => by simp [meet, Value.ownBlock] at h, HB4.out, Nat.le_refl _, by omega⟩
    case round =>
      obtain ⟨k, r, AO, cO, AR, cR, hk, hr, rfl, rfl, HRA⟩ := hrel
      have b0 := (HRA.out.below.cell (p := ⟨w.heap.size, 0, none⟩) zg).trans g0
      by_cases hlt : k < g.roots.length
      · obtain rfl : r = k := by omega
        clear hr
        have hkI : (r : Int) < (g.roots.length : Int) + (more.length : Int) := by omega
        have HTK1 := Lib.hid (show (g.roots ++ more).take (r + 1) = g.roots.take (r + 1) from List.take_append_of_le_length (by omega))
        rw [List.take_append_of_le_length (show r ≤ g.roots.length by omega)] at HRA ⊢
        obtain ⟨ad, rfl, a1⟩ := (HA.out.below (HRA.out.below.mono (Nat.le_of_eq HW.out.2.1))).at_ r hlt
        have hng := named_get HR.out r hlt
        have HTM := Lib.hid (meet_take [] g.roots r hlt)
        have hord := ord_meet (ord_nil g.nodes.length) (named_take HR.out r)
        have hol := ord_len hord
        have hml : (meet [] (g.roots.take r)).2.length = r := by rw [meet_len, List.length_take]; omega
        have HPM := Lib.hid (place_meet hord g.roots[r])
        generalize g.roots[r] = a at a1 hng HTM HPM
        generalize (meet [] (g.roots.take r)).1 = o at HRA HTM HPM hord hol ⊢
        generalize (meet [] (g.roots.take r)).2 = rs at HRA HTM hml ⊢
        have HO := Lib.hid hord
        have p0 := HRA.out.met.at_ a hng.1 hng.2
        have hw4 : (4 : Int) = 4 := rfl
        by_cases ha0 : a = 0
        · subst ha0
          have hz := placeOf_zero.2 (fun h => by have := HO.out.2 0 h; omega : (0 : Int) ∉ o)
          rw [hz] at p0
          simp only [Int.toNat_zero] at p0
          go_wp2_with fail
          have y0 := HRA.out.out.cell 0
          have y1 := HRA.out.out.frozen 0
          have y2 := HRA.out.out.lt
          simp only [List.getElem?_toArray, List.getElem?_cons_zero] at y0
          go_region_law (first | (refine step_append_any _ rfl _ _ _ (by rfl) np 3 i0 _ 1 8 Tryz.underlying22 hi0 hz01 hz02 hz03 rfl (by omega) (.slice AR r cR) r (enc ic rs) (by rfl) (own_ahead (show World.ownsRow wr np 3 1 (.slice AR r cR) r (enc ic rs) from by have := HRA.out.row; rwa [hml] at this) _ (by (first | exact like_self _ | exact like_drew (like_self _) | exact like_drew (like_drew (like_self _)) | exact like_drew (like_drew (like_drew (like_self _)))))) _ 1 1 _ (by rfl) (Reads.new _ _ rfl) (by simp [Value.oneCell']) (fun e => by cases e) (by simp only [maxLen]; omega) (by omega) (by first | omega | (simp; omega)) ?_; intro v4 w4 hown4 hg4 hat4; have HRM := Lib.hid (RA.more HRA.out hml _ (by (first | exact like_self _ | exact like_drew (like_self _) | exact like_drew (like_drew (like_self _)) | exact like_drew (like_drew (like_drew (like_self _))))) hg4 hown4 hat4); have hX4 := grow_keep HRA.out.out _ (by (first | exact like_self _ | exact like_drew (like_self _) | exact like_drew (like_drew (like_self _)) | exact like_drew (like_drew (like_drew (like_self _))))) hg4 (own_blk_ne HRA.out.row HRA.out.out (by decide)); have r1 := hX4.cell 0; have r2 := hX4.frozen 0; have r3 := hX4.lt; simp only [List.getElem?_toArray, List.getElem?_cons_zero] at r1; obtain ⟨A4, c4, rfl, hc4⟩ := own_form hown4; clear hX4 hown4 hg4 hat4) | (refine step_append_any _ rfl _ _ _ (by rfl) np 3 i0 _ 1 8 Tryz.underlying22 hi0 hz01 hz02 hz03 rfl (by omega) (.slice AR r cR) r (enc ic rs) (by rfl) (own_ahead (show World.ownsRow wr np 3 1 (.slice AR r cR) r (enc ic rs) from by have := HRA.out.row; rwa [hml] at this) _ (by (first | exact like_self _ | exact like_drew (like_self _) | exact like_drew (like_drew (like_self _)) | exact like_drew (like_drew (like_drew (like_self _)))))) _ 1 1 _ (by rfl) (reads_drew (Reads.new _ _ rfl)) (by simp [Value.oneCell']) (fun e => by cases e) (by simp only [maxLen]; omega) (by omega) (by first | omega | (simp; omega)) ?_; intro v4 w4 hown4 hg4 hat4; have HRM := Lib.hid (RA.more HRA.out hml _ (by (first | exact like_self _ | exact like_drew (like_self _) | exact like_drew (like_drew (like_self _)) | exact like_drew (like_drew (like_drew (like_self _))))) hg4 hown4 hat4); have hX4 := grow_keep HRA.out.out _ (by (first | exact like_self _ | exact like_drew (like_self _) | exact like_drew (like_drew (like_self _)) | exact like_drew (like_drew (like_drew (like_self _))))) hg4 (own_blk_ne HRA.out.row HRA.out.out (by decide)); have r1 := hX4.cell 0; have r2 := hX4.frozen 0; have r3 := hX4.lt; simp only [List.getElem?_toArray, List.getElem?_cons_zero] at r1; obtain ⟨A4, c4, rfl, hc4⟩ := own_form hown4; clear hX4 hown4 hg4 hat4))
          all_goals
            go_wp2
            go_roundw
            case rel =>
              refine ⟨r + 1, r + 1, AO, cO, A4, c4, by omega, by omega, by go_num, ?_, Lib.hid ?_⟩
              · rw [HTK1.out, HTM.out, meet1_zero]
              · rw [HTK1.out, HTM.out, meet1_zero]
                skip
                skip
                exact RA.like HRM.out (by first | exact like_self _ | exact like_drew (like_self _))
            case measure => simp [intOf]; omega

        · by_cases ham : a ∈ o
          · have hpl : 0 < placeOf o a := by
              have := mt placeOf_zero.1 (fun h => h ham)
              have : 0 ≤ placeOf o a := by unfold placeOf; split <;> omega
              omega
            have ha1 : 0 < a := by omega
            have ha2 : (0 : Int) ≤ a := by omega
            have ha3 : a ≤ (g.nodes.length : Int) := hng.2
            have ha4 : a < (g.nodes.length : Int) + 1 := by omega
            have hb1 : (placeOf o a == 0) = false := beq_eq_false_iff_ne.mpr (by omega)
            have HXX := Lib.hid (meet1_old ha0 ham)
            generalize placeOf o a = x at p0 hb1 hpl HXX
            clear ham ha0
            go_wp2_with fail
            have y0 := HRA.out.out.cell 0
            have y1 := HRA.out.out.frozen 0
            have y2 := HRA.out.out.lt
            simp only [List.getElem?_toArray, List.getElem?_cons_zero] at y0
            go_region_law (first | (refine step_append_any _ rfl _ _ _ (by rfl) np 3 i0 _ 1 8 Tryz.underlying22 hi0 hz01 hz02 hz03 rfl (by omega) (.slice AR r cR) r (enc ic rs) (by rfl) (own_ahead (show World.ownsRow wr np 3 1 (.slice AR r cR) r (enc ic rs) from by have := HRA.out.row; rwa [hml] at this) _ (by (first | exact like_self _ | exact like_drew (like_self _) | exact like_drew (like_drew (like_self _)) | exact like_drew (like_drew (like_drew (like_self _)))))) _ 1 1 _ (by rfl) (Reads.new _ _ rfl) (by simp [Value.oneCell']) (fun e => by cases e) (by simp only [maxLen]; omega) (by omega) (by first | omega | (simp; omega)) ?_; intro v4 w4 hown4 hg4 hat4; have HRM := Lib.hid (RA.more HRA.out hml _ (by (first | exact like_self _ | exact like_drew (like_self _) | exact like_drew (like_drew (like_self _)) | exact like_drew (like_drew (like_drew (like_self _))))) hg4 hown4 hat4); have hX4 := grow_keep HRA.out.out _ (by (first | exact like_self _ | exact like_drew (like_self _) | exact like_drew (like_drew (like_self _)) | exact like_drew (like_drew (like_drew (like_self _))))) hg4 (own_blk_ne HRA.out.row HRA.out.out (by decide)); have r1 := hX4.cell 0; have r2 := hX4.frozen 0; have r3 := hX4.lt; simp only [List.getElem?_toArray, List.getElem?_cons_zero] at r1; obtain ⟨A4, c4, rfl, hc4⟩ := own_form hown4; clear hX4 hown4 hg4 hat4) | (refine step_append_any _ rfl _ _ _ (by rfl) np 3 i0 _ 1 8 Tryz.underlying22 hi0 hz01 hz02 hz03 rfl (by omega) (.slice AR r cR) r (enc ic rs) (by rfl) (own_ahead (show World.ownsRow wr np 3 1 (.slice AR r cR) r (enc ic rs) from by have := HRA.out.row; rwa [hml] at this) _ (by (first | exact like_self _ | exact like_drew (like_self _) | exact like_drew (like_drew (like_self _)) | exact like_drew (like_drew (like_drew (like_self _)))))) _ 1 1 _ (by rfl) (reads_drew (Reads.new _ _ rfl)) (by simp [Value.oneCell']) (fun e => by cases e) (by simp only [maxLen]; omega) (by omega) (by first | omega | (simp; omega)) ?_; intro v4 w4 hown4 hg4 hat4; have HRM := Lib.hid (RA.more HRA.out hml _ (by (first | exact like_self _ | exact like_drew (like_self _) | exact like_drew (like_drew (like_self _)) | exact like_drew (like_drew (like_drew (like_self _))))) hg4 hown4 hat4); have hX4 := grow_keep HRA.out.out _ (by (first | exact like_self _ | exact like_drew (like_self _) | exact like_drew (like_drew (like_self _)) | exact like_drew (like_drew (like_drew (like_self _))))) hg4 (own_blk_ne HRA.out.row HRA.out.out (by decide)); have r1 := hX4.cell 0; have r2 := hX4.frozen 0; have r3 := hX4.lt; simp only [List.getElem?_toArray, List.getElem?_cons_zero] at r1; obtain ⟨A4, c4, rfl, hc4⟩ := own_form hown4; clear hX4 hown4 hg4 hat4))
            all_goals
              go_wp2
              go_roundw
              case rel =>
                refine ⟨r + 1, r + 1, AO, cO, A4, c4, by omega, by omega, by go_num, ?_, Lib.hid ?_⟩
                · rw [HTK1.out, HTM.out, HXX.out]
                · rw [HTK1.out, HTM.out, HXX.out]
                  skip
                  skip
                  exact RA.like HRM.out (by first | exact like_self _ | exact like_drew (like_self _))
              case measure => simp [intOf]; omega

          · have hpl : placeOf o a = 0 := placeOf_zero.2 ham
            rw [hpl] at p0
            have ha1 : 0 < a := by omega
            have ha2 : (0 : Int) ≤ a := by omega
            have ha3 : a ≤ (g.nodes.length : Int) := hng.2
            have ha4 : a < (g.nodes.length : Int) + 1 := by omega
            have HXX := Lib.hid (meet1_new ha0 ham)
            have HAM := Lib.hid ham
            have hop2 := HRA.out.met.own
            have HNO := Lib.hid HRA.out.met.apart
            clear ham ha0 hpl
            have y9 := HRA.out.out.lt
            have HGr := Lib.hid (HG.out.below HRA.out.below zg)
            have zgr := HGr.out.lt
            go_wp2_with (refine wpList_append_any _ (by rfl) _ _ _ (by rfl) np 3 i0 _ 1 8 Tryz.underlying22 hi0 hz01 hz02 hz03 rfl (by omega) (.slice AO o.length cO) o.length (enc ic o) (by rfl) (own_below hop2 (below_1 _ _)) _ 1 1 _ (by rfl) (Reads.new _ _ rfl) (by simp [Value.oneCell']) (fun e => by cases e) (by simp only [maxLen]; omega) (by omega) (by first | omega | (simp; omega)) ?_; intro v4 w4 hown4 hg4 hat4; have hX4 := grow_keep HRA.out.met.plc _ (like_self _) hg4 HNO.out; have r1 := (hX4.cell a.toNat).trans (((HRA.out.met.plc).cell a.toNat).symm.trans p0); have r2 := hX4.frozen a.toNat; have r3 := hX4.lt; have HMV := Lib.hid (HRA.out.met.add ha2 ha3 HAM.out _ (like_self _) hg4 hown4 hat4); have HAT := Lib.hid hat4; have hb9 := (grow_keep HGr.out _ (like_self _) hg4 (own_blk_ne HRA.out.met.own HGr.out (by decide))); have b9 := hb9.cell 0; simp only [List.getElem?_toArray, List.getElem?_cons_zero] at b9; clear hb9; obtain ⟨A5, c5, rfl, hc5⟩ := own_form hown4; clear hX4 hown4 hg4 hat4 hop2)
            have HRB := Lib.hid (HRA.out.place HMV.out.1 HMV.out.2 (HAT.out.imp id (fun e => ⟨_, e, by simp⟩)))
            have p5 := HRB.out.met.at_ a ha2 ha3
            have HPX := Lib.hid (show placeOf (o ++ [a]) a = (o.length : Int) + 1 by rw [placeOf_snoc HAM.out, if_pos rfl])
            rw [HPX.out] at p5
            clear HMV r1 r2 r3 b9
            generalize w4.setCell ⟨np, a.toNat, none⟩ (.int .i64 ((o.length : Int) + 1)) = w5 at HRB p5 ⊢
            have y0 := HRB.out.out.cell 0
            have y1 := HRB.out.out.frozen 0
            have y2 := HRB.out.out.lt
            simp only [List.getElem?_toArray, List.getElem?_cons_zero] at y0
            go_region_law (first | (refine step_append_any _ rfl _ _ _ (by rfl) np 3 i0 _ 1 8 Tryz.underlying22 hi0 hz01 hz02 hz03 rfl (by omega) (.slice AR r cR) r (enc ic rs) (by rfl) (own_ahead (show World.ownsRow w5 np 3 1 (.slice AR r cR) r (enc ic rs) from by have := HRB.out.row; rwa [hml] at this) _ (by (first | exact like_self _ | exact like_drew (like_self _) | exact like_drew (like_drew (like_self _)) | exact like_drew (like_drew (like_drew (like_self _)))))) _ 1 1 _ (by rfl) (Reads.new _ _ rfl) (by simp [Value.oneCell']) (fun e => by cases e) (by simp only [maxLen]; omega) (by omega) (by first | omega | (simp; omega)) ?_; intro v4 w4 hown4 hg4 hat4; have HRM := Lib.hid (RA.more HRB.out hml _ (by (first | exact like_self _ | exact like_drew (like_self _) | exact like_drew (like_drew (like_self _)) | exact like_drew (like_drew (like_drew (like_self _))))) hg4 hown4 hat4); have hX4 := grow_keep HRB.out.out _ (by (first | exact like_self _ | exact like_drew (like_self _) | exact like_drew (like_drew (like_self _)) | exact like_drew (like_drew (like_drew (like_self _))))) hg4 (own_blk_ne HRB.out.row HRB.out.out (by decide)); have r1 := hX4.cell 0; have r2 := hX4.frozen 0; have r3 := hX4.lt; simp only [List.getElem?_toArray, List.getElem?_cons_zero] at r1; obtain ⟨A4, c4, rfl, hc4⟩ := own_form hown4; clear hX4 hown4 hg4 hat4) | (refine step_append_any _ rfl _ _ _ (by rfl) np 3 i0 _ 1 8 Tryz.underlying22 hi0 hz01 hz02 hz03 rfl (by omega) (.slice AR r cR) r (enc ic rs) (by rfl) (own_ahead (show World.ownsRow w5 np 3 1 (.slice AR r cR) r (enc ic rs) from by have := HRB.out.row; rwa [hml] at this) _ (by (first | exact like_self _ | exact like_drew (like_self _) | exact like_drew (like_drew (like_self _)) | exact like_drew (like_drew (like_drew (like_self _)))))) _ 1 1 _ (by rfl) (reads_drew (Reads.new _ _ rfl)) (by simp [Value.oneCell']) (fun e => by cases e) (by simp only [maxLen]; omega) (by omega) (by first | omega | (simp; omega)) ?_; intro v4 w4 hown4 hg4 hat4; have HRM := Lib.hid (RA.more HRB.out hml _ (by (first | exact like_self _ | exact like_drew (like_self _) | exact like_drew (like_drew (like_self _)) | exact like_drew (like_drew (like_drew (like_self _))))) hg4 hown4 hat4); have hX4 := grow_keep HRB.out.out _ (by (first | exact like_self _ | exact like_drew (like_self _) | exact like_drew (like_drew (like_self _)) | exact like_drew (like_drew (like_drew (like_self _))))) hg4 (own_blk_ne HRB.out.row HRB.out.out (by decide)); have r1 := hX4.cell 0; have r2 := hX4.frozen 0; have r3 := hX4.lt; simp only [List.getElem?_toArray, List.getElem?_cons_zero] at r1; obtain ⟨A4, c4, rfl, hc4⟩ := own_form hown4; clear hX4 hown4 hg4 hat4))
            all_goals
              go_wp2
              go_roundw
              case rel =>
                refine ⟨r + 1, r + 1, A5, c5, A4, c4, by omega, by omega, by go_num, ?_, Lib.hid ?_⟩
                · rw [HTK1.out, HTM.out, HXX.out]; simp
                · rw [HTK1.out, HTM.out, HXX.out]
                  show RA _ _ _ _ _ _ (.slice _ (_ ++ [_]).length _) _ _ _
                  rw [List.length_append, List.length_singleton]
                  exact RA.like HRM.out (by first | exact like_self _ | exact like_drew (like_self _))
              case measure => simp [intOf]; omega

      · by_cases hlt2 : k < g.roots.length + more.length
        · obtain ⟨p, rfl⟩ : ∃ p, k = g.roots.length + p := ⟨k - g.roots.length, by omega⟩
          have hpl : p < more.length := by omega
          obtain rfl : r = g.roots.length := by omega
          have hkI : ((g.roots.length + p : Nat) : Int) < (g.roots.length : Int) + (more.length : Int) := by omega
          have hkJ : ¬ ((g.roots.length + p : Nat) : Int) < (g.roots.length : Int) := by omega
          have hltm : g.roots.length + p < (g.roots ++ more).length := by rw [List.length_append]; omega
          obtain ⟨ad, rfl, a1⟩ := (HM.out.below (HRA.out.below.mono (Nat.le_of_eq HW.out.2.1))).at_ p hpl
          have hng := named_get HMR.out p hpl
          have HTM := Lib.hid (meet_take [] (g.roots ++ more) (g.roots.length + p) hltm)
          have hge : (g.roots ++ more)[g.roots.length + p] = more[p] := by rw [List.getElem_append_right (by omega)]; congr 1; omega
          rw [hge] at HTM
          have hnr : named (g.roots ++ more) g.nodes.length = true := by
            have h1 := HR.out
            have h2 := HMR.out
            unfold named at *
            rw [List.all_append, h1, h2]
            rfl
          have hord := ord_meet (ord_nil g.nodes.length) (named_take hnr (g.roots.length + p))
          have hol := ord_len hord
          generalize more[p] = a at a1 hng HTM
          generalize (meet [] ((g.roots ++ more).take (g.roots.length + p))).1 = o at HRA HTM hord hol ⊢
          rw [List.take_length] at HRA
          generalize hrs0 : (meet [] g.roots).2 = rs at HRA
          have HRS := Lib.hid hrs0
          clear hr hrs0
          have HO := Lib.hid hord
          have p0 := HRA.out.met.at_ a hng.1 hng.2
          clear hge hnr hltm
          by_cases ha0 : a = 0
          · subst ha0
            have hz := placeOf_zero.2 (fun h => by have := HO.out.2 0 h; omega : (0 : Int) ∉ o)
            go_wp2_with fail
            go_roundw
            case rel =>
              refine ⟨g.roots.length + p + 1, g.roots.length, AO, cO, AR, cR, by omega, by omega, by go_num, ?_, Lib.hid ?_⟩
              · rw [HTM.out, meet1_zero]
              · rw [List.take_length, HRS.out, HTM.out, meet1_zero]
                skip
                exact RA.like (HRA).out (by first | exact like_self _ | exact like_drew (like_self _))
            case measure => simp [intOf]; omega
          · by_cases ham : a ∈ o
            · have hpl2 : 0 < placeOf o a := by
                have := mt placeOf_zero.1 (fun h => h ham)
                have : 0 ≤ placeOf o a := by unfold placeOf; split <;> omega
                omega
              have ha1 : 0 < a := by omega
              have ha2 : (0 : Int) ≤ a := by omega
              have ha3 : a ≤ (g.nodes.length : Int) := hng.2
              have ha4 : a < (g.nodes.length : Int) + 1 := by omega
              have hb1 : (placeOf o a == 0) = false := beq_eq_false_iff_ne.mpr (by omega)
              have HXX := Lib.hid (meet1_old ha0 ham)
              generalize placeOf o a = x at p0 hb1 hpl2 HXX
              clear ham ha0
              go_wp2_with fail
              go_roundw
              case rel =>
                refine ⟨g.roots.length + p + 1, g.roots.length, AO, cO, AR, cR, by omega, by omega, by go_num, ?_, Lib.hid ?_⟩
                · rw [HTM.out, HXX.out]
                · rw [List.take_length, HRS.out, HTM.out, HXX.out]
                  skip
                  exact RA.like (HRA).out (by first | exact like_self _ | exact like_drew (like_self _))
              case measure => simp [intOf]; omega
            · have hpl2 : placeOf o a = 0 := placeOf_zero.2 ham
              rw [hpl2] at p0
              have ha1 : 0 < a := by omega
              have ha2 : (0 : Int) ≤ a := by omega
              have ha3 : a ≤ (g.nodes.length : Int) := hng.2
              have ha4 : a < (g.nodes.length : Int) + 1 := by omega
              have HXX := Lib.hid (meet1_new ha0 ham)
              have HAM := Lib.hid ham
              have hop2 := HRA.out.met.own
              have HNO := Lib.hid HRA.out.met.apart
              clear ham ha0 hpl2
              have y9 := HRA.out.out.lt
              have HGr := Lib.hid (HG.out.below HRA.out.below zg)
              have zgr := HGr.out.lt
              go_wp2_with (refine wpList_append_any _ (by rfl) _ _ _ (by rfl) np 3 i0 _ 1 8 Tryz.underlying22 hi0 hz01 hz02 hz03 rfl (by omega) (.slice AO o.length cO) o.length (enc ic o) (by rfl) (own_below hop2 (below_1 _ _)) _ 1 1 _ (by rfl) (Reads.new _ _ rfl) (by simp [Value.oneCell']) (fun e => by cases e) (by simp only [maxLen]; omega) (by omega) (by first | omega | (simp; omega)) ?_; intro v4 w4 hown4 hg4 hat4; have hX4 := grow_keep HRA.out.met.plc _ (like_self _) hg4 HNO.out; have r1 := (hX4.cell a.toNat).trans (((HRA.out.met.plc).cell a.toNat).symm.trans p0); have r2 := hX4.frozen a.toNat; have r3 := hX4.lt; have HMV := Lib.hid (HRA.out.met.add ha2 ha3 HAM.out _ (like_self _) hg4 hown4 hat4); have HAT := Lib.hid hat4; have hb9 := (grow_keep HGr.out _ (like_self _) hg4 (own_blk_ne HRA.out.met.own HGr.out (by decide))); have b9 := hb9.cell 0; simp only [List.getElem?_toArray, List.getElem?_cons_zero] at b9; clear hb9; obtain ⟨A5, c5, rfl, hc5⟩ := own_form hown4; clear hX4 hown4 hg4 hat4 hop2)
              have HRB := Lib.hid (HRA.out.place HMV.out.1 HMV.out.2 (HAT.out.imp id (fun e => ⟨_, e, by simp⟩)))
              have p5 := HRB.out.met.at_ a ha2 ha3
              have HPX := Lib.hid (show placeOf (o ++ [a]) a = (o.length : Int) + 1 by rw [placeOf_snoc HAM.out, if_pos rfl])
              rw [HPX.out] at p5
              clear HMV r1 r2 r3 b9
              generalize w4.setCell ⟨np, a.toNat, none⟩ (.int .i64 ((o.length : Int) + 1)) = w5 at HRB p5 ⊢
              go_roundw
              case rel =>
                refine ⟨g.roots.length + p + 1, g.roots.length, A5, c5, AR, cR, by omega, by omega, by go_num, ?_, Lib.hid ?_⟩
                · rw [HTM.out, HXX.out]; simp
                · rw [List.take_length, HRS.out, HTM.out, HXX.out]
                  show RA _ _ _ _ _ _ (.slice _ (_ ++ [_]).length _) _ _ _
                  rw [List.length_append, List.length_singleton]
                  exact RA.like (HRB).out (by first | exact like_self _ | exact like_drew (like_self _))
              case measure => simp [intOf]; omega
        · obtain rfl : k = g.roots.length + more.length := by omega
          obtain rfl : r = g.roots.length := by omega
          clear hr
          have hkJ : ¬ ((g.roots.length + more.length : Nat) : Int) < (g.roots.length : Int) + (more.length : Int) := by omega
          go_wp2_with fail
          go_meet
          have h1 := HRA.out
          have e1 : (g.roots ++ more).take (g.roots.length + more.length) = g.roots ++ more := List.take_of_length_le (by rw [List.length_append]; omega)
          rw [e1, List.take_length] at h1
          rw [e1]
          exact Lib.hid ⟨AO, cO, AR, cR, rfl, by rw [meet_len]; exact h1⟩
  case rest =>
    obtain ⟨AO, cO, AR, cR, rfl, hra⟩ := hcut.out
    have hnr : named (g.roots ++ more) g.nodes.length = true := by
      have h1 := HR.out
      have h2 := HMR.out
      unfold named at *
      rw [List.all_append, h1, h2]
      rfl
    have hord0 := ord_meet (ord_nil g.nodes.length) hnr
    clear hnr
    have HE0 : Hid (canonGo g (g.nodes.length + 1) 0 (meet [] (g.roots ++ more)).1 [] = (canonM g more).nodes) := Lib.hid rfl
    have HRR : Hid ((meet [] g.roots).2 = (canonM g more).roots) := Lib.hid rfl
    have hrs : (meet [] g.roots).2.length = g.roots.length := meet_len _ _
    have HRS := Lib.hid hrs
    generalize (meet [] (g.roots ++ more)).1 = o0 at hra hord0 HE0 ⊢
    generalize (meet [] g.roots).2 = rs0 at hra HRR hrs HRS ⊢
    have hrb : RB W2 wc np np (np + 1) g.nodes.length (.slice AO o0.length cO) (.slice none 0 0) o0 rs0 AR cR [] [] := by
      refine ⟨hra.met, hra.out, CInts.of_own hra.row (by omega) (Nat.le_refl _) ?_, NdRow.nil _ _ _, hra.below, hra.hnp, hra.hop⟩
      intro b hb hh
      have h1 := own_block hra.row b hb
      rcases hh with e | e | e | e
      · subst e; exact hra.rnp hb
      · subst e; exact own_blk_ne hra.row hra.out (by decide) hb
      · exact hra.ap b e hb
      · simp [Value.ownBlock] at e
    have HRB0 := Lib.hid hrb
    have HO0 := Lib.hid hord0
    clear hra hrb hrs hcut
    go_wp2_with fail
    go_loopg [6, 10] (g.nodes.length + 1) (fun gl u6 i wr => ∃ (k : Nat) (o : List Int) (AO : Option Addr) (cO : Nat) (AN : Option Addr) (cN : Nat) (ns : List Nd) (xs : List Value), k ≤ o.length ∧ gl = g.nodes.length + 1 - k ∧ i = .int .i64 k ∧ u6 = .slice AO o.length cO ∧ Hid (RB W2 wr np np (np + 1) g.nodes.length (.slice AO o.length cO) (.slice AN k cN) o rs0 AR cR ns xs) ∧ Hid (ns.length = k) ∧ Hid (Ord o g.nodes.length) ∧ Hid (canonGo g (g.nodes.length + 1 - k) k o ns = (canonM g more).nodes))
    case atStart => exact ⟨0, o0, AO, cO, none, 0, [], [], Nat.zero_le _, by omega, rfl, rfl, HRB0, Lib.hid rfl, HO0, HE0⟩
    case round =>
      obtain ⟨k, o, AO, cO, AN, cN, ns, xs, hk, rfl, rfl, rfl, HRB, HNL, HO, HE⟩ := hrel
      have hol := ord_len HO.out
      have b1 := (HRB.out.below.cell (p := ⟨w.heap.size, 1, none⟩) zg).trans g1
      clear HRB0 HO0 HE0
      by_cases hlt : k < o.length
      · obtain ⟨adO, hAO, oc⟩ := (Ints.of_own HRB.out.met.own (by omega)).at_ k hlt
        subst hAO
        have hak := HO.out.2 o[k] (List.getElem_mem hlt)
        have hnd := nodeAt_eq g o[k] hak.1 hak.2
        have hstep := canonGo_step g (g.nodes.length - k) k o ns hlt
        rw [show g.nodes.length - k + 1 = g.nodes.length + 1 - k by omega] at hstep
        rw [hnd] at hstep
        have HOM := Lib.hid (ord_meet HO.out (ndOk_parts (HX.out _ (List.getElem_mem (show (o[k] - 1).toNat < g.nodes.length by omega)))).2.2.2)
        obtain ⟨i, hi⟩ : ∃ i : Nat, o[k] = (i : Int) + 1 := ⟨(o[k] - 1).toNat, by omega⟩
        have hil : i < g.nodes.length := by omega
        have hii : (o[k] - 1).toNat = i := by omega
        have hgi : ∀ (h : (o[k] - 1).toNat < g.nodes.length), g.nodes[(o[k] - 1).toNat] = g.nodes[i] := fun h => by congr 1
        rw [hgi] at hstep HOM
        rw [hi] at oc
        have hlow : ∀ {wx : World}, Below np W2 wx → Below W2.heap.size W2 wx := fun h => h.mono (Nat.le_of_eq HW.out.2.1)
        obtain ⟨dd, As, cs, Bs, ds, rfl, d2, d3, i1, i2⟩ := nds_at HD.out i hil
        have hxk := HX.out g.nodes[i] (List.getElem_mem hil)
        have HSTEP := Lib.hid (hstep.symm.trans HE.out)
        generalize g.nodes[i] = x at d2 d3 i1 i2 hxk HSTEP HOM
        have z2 := cell_lt d2
        have z3 := cell_lt d3
        have e2 := ((hlow HRB.out.below).cell z2).trans d2
        have e3 := ((hlow HRB.out.below).cell (p := ⟨(dd.add (i * 2)).block, (dd.add (i * 2)).off + 1, none⟩) z3).trans d3
        have HI1 := Lib.hid i1
        have HI2 := Lib.hid i2
        have hxp := ndOk_parts hxk
        have hx1 := hxp.1
        have hx2 := hxp.2.1
        have HXS := Lib.hid hxp.2.2.2
        have hiI : (i : Int) < g.nodes.length := by omega
        have zo := cell_lt oc
        have zb := cell_lt b1
        have ze2 := cell_lt e2
        clear hstep hnd hgi hii hi d2 d3 i1 i2 hxk hxp hak z2 z3 HE
        have hq1 : IntKind.i64.wrap ((i : Int) + 1 - 1) = (i : Int) := by rw [IntWalk.i64_in _ (by omega)]; omega
        have hq2 : IntKind.i64.wrap (i : Int) = (i : Int) := IntWalk.i64_in _ (by omega)
        have hq3 : (0 : Int) ≤ (i : Int) := by omega
        have HQ := Lib.hid (And.intro hq1 (And.intro hq2 hq3))
        clear hq1 hq2 hq3
        go_upto_region 19 with fail
        obtain ⟨c1, hc1⟩ : ∃ c1, wr.heap.size = c1 := ⟨_, rfl⟩
        go_cut [11] (fun u11 wx => u11 = .pointer (some ⟨c1, 0, none⟩) ∧ Hid (Blk wx c1 55 #[.slice As x.slots.length cs, .slice Bs x.words.length ds]) ∧ Hid (Below wr.heap.size wr wx))
        case first =>
          obtain ⟨hq1, hq2, hq3⟩ := HQ.out
          go_region_held3 (fun W => W.cell? ⟨w.heap.size, 1, none⟩ = some (.slice (some dd) g.nodes.length d) ∧ W.cell? (adO.add k) = some (.int .i64 ((i : Int) + 1)) ∧ W.cell? (dd.add (i * 2)) = some (.slice As x.slots.length cs) ∧ W.cell? ⟨(dd.add (i * 2)).block, (dd.add (i * 2)).off + 1, none⟩ = some (.slice Bs x.words.length ds))
            (first
              | exact ⟨b1, oc, e2, e3⟩
              | exact ⟨((below_1 _ _).cell (cell_lt b1)).trans b1, ((below_1 _ _).cell (cell_lt oc)).trans oc, ((below_1 _ _).cell (cell_lt e2)).trans e2, ((below_1 _ _).cell (cell_lt e3)).trans e3⟩
              | go_keep)
            (fail)
          all_goals
            go_wp2_with fail
            go_meet
            exact ⟨by first | rfl | rw [hc1], Lib.hid (by rw [← hc1]; exact (Blk.new wr _ _).drewN 1), Lib.hid (below_drewN (below_1 wr _) 1)⟩
        case rest =>
          obtain ⟨rfl, HX1, HBX⟩ := hcut
          have hri := RI.start HRB.out (below_then HBX.out (below_1 wc (.cells #[.slice none 0 0, .slice none 0 0] 55)))
          have hx2b := Blk.new wc 55 #[.slice none 0 0, .slice none 0 0]
          have hx1b := HX1.out.alloc (.cells #[.slice none 0 0, .slice none 0 0] 55)
          have zx1 := HX1.out.lt
          obtain ⟨b2, hb2⟩ : ∃ b2, wc.heap.size = b2 := ⟨_, rfl⟩
          rw [hb2] at hx2b zx1
          rw [hc1] at hri
          have HB2n := Lib.hid hb2
          have HC1 := Lib.hid hc1
          have hap0 : ∀ q, (Value.slice (some adO) o.length cO).ownBlock = some q → (Value.slice none 0 0).ownBlock ≠ some q := fun q _ e => by simp [Value.ownBlock] at e
          have HRS0 : Hid (RS (wc.alloc (.cells #[.slice none 0 0, .slice none 0 0] 55)) c1 b2 (.slice (some adO) o.length cO) (.slice AN k cN) (.slice none 0 0) #[.slice As x.slots.length cs, .slice Bs x.words.length ds] []) := Lib.hid ⟨hx1b, hx2b, own_nil _ _ _ _, hap0, zx1⟩
          have HRI0 := Lib.hid hri
          have HORD := Lib.hid HO.out
          clear hri hx1b hx2b hap0 b1 oc e2 e3 zo zb ze2
          go_wp2_with fail
          clear hb2 hc1
          go_loopw [6, 13] (fun u6 i wr => ∃ (p : Nat) (AO : Option Addr) (cO : Nat) (AS : Option Addr) (cS : Nat), p ≤ x.slots.length ∧ i = .int .i64 p ∧ u6 = .slice AO (meet o (x.slots.take p)).1.length cO ∧
            Hid (RI W2 wr np np (np + 1) g.nodes.length c1 (.slice AO (meet o (x.slots.take p)).1.length cO) (.slice AN k cN) (meet o (x.slots.take p)).1 rs0 AR cR ns xs) ∧ Hid (RS wr c1 b2 (.slice AO (meet o (x.slots.take p)).1.length cO) (.slice AN k cN) (.slice AS p cS) #[.slice As x.slots.length cs, .slice Bs x.words.length ds] (meet o (x.slots.take p)).2)) (fun _ i _ => x.slots.length - (intOf i).toNat)
          case atStart => exact ⟨0, some adO, cO, none, 0, Nat.zero_le _, rfl, rfl, HRI0, HRS0⟩
          case round =>
            obtain ⟨p, AO, cO, AS, cS, hp, rfl, rfl, HRI, HRS1⟩ := hrel
            have x0 := HRS1.out.x1.cell 0
            have x1 := HRS1.out.x1.cell 1
            simp only [List.getElem?_toArray, List.getElem?_cons_zero, List.getElem?_cons_succ] at x0 x1
            have hord := ord_meet HORD.out (named_take HXS.out p)
            have hol := ord_len hord
            by_cases hlt2 : p < x.slots.length
            · obtain ⟨ad, rfl, a1⟩ := (HI1.out.below (HRI.out.below.mono (Nat.le_of_eq HW.out.2.1))).at_ p hlt2
              have hng := named_get HXS.out p hlt2
              have HTM := Lib.hid (meet_take o x.slots p hlt2)
              have hml : (meet o (x.slots.take p)).2.length = p := by rw [meet_len, List.length_take]; omega
              generalize x.slots[p] = a at a1 hng HTM
              generalize (meet o (x.slots.take p)).2 = ss at HRS1 HTM hml ⊢
              generalize (meet o (x.slots.take p)).1 = o at HRI HRS1 HTM hord hol ⊢
              have HOp := Lib.hid hord
              have p0 := HRI.out.met.at_ a hng.1 hng.2
              clear hord
              by_cases ha0 : a = 0
              · subst ha0
                have hz := placeOf_zero.2 (fun h => by have := HOp.out.2 0 h; omega : (0 : Int) ∉ o)
                rw [hz] at p0
                simp only [Int.toNat_zero] at p0
                go_wp2_with fail
                have y0 := HRS1.out.x2.cell 0
                have y1 := HRS1.out.x2.frozen 0
                have y2 := HRS1.out.x2.lt
                simp only [List.getElem?_toArray, List.getElem?_cons_zero] at y0
                go_region_law (first | (refine step_append_any _ rfl _ _ _ (by rfl) b2 3 i0 _ 1 8 Tryz.underlying22 hi0 hz01 hz02 hz03 rfl (by omega) (.slice AS p cS) p (enc ic ss) (by rfl) (own_ahead (show World.ownsRow wr b2 3 1 (.slice AS p cS) p (enc ic ss) from by have := HRS1.out.row; rwa [hml] at this) _ (by (first | exact like_self _ | exact like_drew (like_self _) | exact like_drew (like_drew (like_self _)) | exact like_drew (like_drew (like_drew (like_self _)))))) _ 1 1 _ (by rfl) (Reads.new _ _ rfl) (by simp [Value.oneCell']) (fun e => by cases e) (by simp only [maxLen]; omega) (by omega) (by first | omega | (simp; omega)) ?_; intro v4 w4 hown4 hg4 hat4; have HRM := Lib.hid (RS.more HRS1.out HRI.out hml _ (by (first | exact like_self _ | exact like_drew (like_self _) | exact like_drew (like_drew (like_self _)) | exact like_drew (like_drew (like_drew (like_self _))))) hg4 hown4 hat4); have hX4 := grow_keep HRS1.out.x2 _ (by (first | exact like_self _ | exact like_drew (like_self _) | exact like_drew (like_drew (like_self _)) | exact like_drew (like_drew (like_drew (like_self _))))) hg4 (own_blk_ne HRS1.out.row HRS1.out.x2 (by decide)); have r1 := hX4.cell 0; have r2 := hX4.frozen 0; have r3 := hX4.lt; simp only [List.getElem?_toArray, List.getElem?_cons_zero] at r1; obtain ⟨A4, c4, rfl, hc4⟩ := own_form hown4; clear hX4 hown4 hg4 hat4) | (refine step_append_any _ rfl _ _ _ (by rfl) b2 3 i0 _ 1 8 Tryz.underlying22 hi0 hz01 hz02 hz03 rfl (by omega) (.slice AS p cS) p (enc ic ss) (by rfl) (own_ahead (show World.ownsRow wr b2 3 1 (.slice AS p cS) p (enc ic ss) from by have := HRS1.out.row; rwa [hml] at this) _ (by (first | exact like_self _ | exact like_drew (like_self _) | exact like_drew (like_drew (like_self _)) | exact like_drew (like_drew (like_drew (like_self _)))))) _ 1 1 _ (by rfl) (reads_drew (Reads.new _ _ rfl)) (by simp [Value.oneCell']) (fun e => by cases e) (by simp only [maxLen]; omega) (by omega) (by first | omega | (simp; omega)) ?_; intro v4 w4 hown4 hg4 hat4; have HRM := Lib.hid (RS.more HRS1.out HRI.out hml _ (by (first | exact like_self _ | exact like_drew (like_self _) | exact like_drew (like_drew (like_self _)) | exact like_drew (like_drew (like_drew (like_self _))))) hg4 hown4 hat4); have hX4 := grow_keep HRS1.out.x2 _ (by (first | exact like_self _ | exact like_drew (like_self _) | exact like_drew (like_drew (like_self _)) | exact like_drew (like_drew (like_drew (like_self _))))) hg4 (own_blk_ne HRS1.out.row HRS1.out.x2 (by decide)); have r1 := hX4.cell 0; have r2 := hX4.frozen 0; have r3 := hX4.lt; simp only [List.getElem?_toArray, List.getElem?_cons_zero] at r1; obtain ⟨A4, c4, rfl, hc4⟩ := own_form hown4; clear hX4 hown4 hg4 hat4))
                all_goals
                  go_wp2
                  go_roundw
                  case rel =>
                    refine ⟨p + 1, AO, cO, A4, c4, by omega, by go_num, ?_, Lib.hid ?_, Lib.hid ?_⟩
                    · rw [HTM.out, meet1_zero]
                    · rw [HTM.out, meet1_zero]
                      skip
                      skip
                      exact RI.like HRM.out.2 (by first | exact like_self _ | exact like_drew (like_self _))
                    · rw [HTM.out, meet1_zero]
                      skip
                      skip
                      exact RS.like HRM.out.1 (by first | exact like_self _ | exact like_drew (like_self _))
                  case measure => simp [intOf]; omega

              · by_cases ham : a ∈ o
                · skip
                  have hpl : 0 < placeOf o a := by
                    have := mt placeOf_zero.1 (fun h => h ham)
                    have : 0 ≤ placeOf o a := by unfold placeOf; split <;> omega
                    omega
                  have ha1 : 0 < a := by omega
                  have ha2 : (0 : Int) ≤ a := by omega
                  have ha3 : a ≤ (g.nodes.length : Int) := hng.2
                  have ha4 : a < (g.nodes.length : Int) + 1 := by omega
                  have hb1 : (placeOf o a == 0) = false := beq_eq_false_iff_ne.mpr (by omega)
                  have HXX := Lib.hid (meet1_old ha0 ham)
                  generalize placeOf o a = x at p0 hb1 hpl HXX
                  clear ham ha0
                  go_wp2_with fail
                  have y0 := HRS1.out.x2.cell 0
                  have y1 := HRS1.out.x2.frozen 0
                  have y2 := HRS1.out.x2.lt
                  simp only [List.getElem?_toArray, List.getElem?_cons_zero] at y0
                  go_region_law (first | (refine step_append_any _ rfl _ _ _ (by rfl) b2 3 i0 _ 1 8 Tryz.underlying22 hi0 hz01 hz02 hz03 rfl (by omega) (.slice AS p cS) p (enc ic ss) (by rfl) (own_ahead (show World.ownsRow wr b2 3 1 (.slice AS p cS) p (enc ic ss) from by have := HRS1.out.row; rwa [hml] at this) _ (by (first | exact like_self _ | exact like_drew (like_self _) | exact like_drew (like_drew (like_self _)) | exact like_drew (like_drew (like_drew (like_self _)))))) _ 1 1 _ (by rfl) (Reads.new _ _ rfl) (by simp [Value.oneCell']) (fun e => by cases e) (by simp only [maxLen]; omega) (by omega) (by first | omega | (simp; omega)) ?_; intro v4 w4 hown4 hg4 hat4; have HRM := Lib.hid (RS.more HRS1.out HRI.out hml _ (by (first | exact like_self _ | exact like_drew (like_self _) | exact like_drew (like_drew (like_self _)) | exact like_drew (like_drew (like_drew (like_self _))))) hg4 hown4 hat4); have hX4 := grow_keep HRS1.out.x2 _ (by (first | exact like_self _ | exact like_drew (like_self _) | exact like_drew (like_drew (like_self _)) | exact like_drew (like_drew (like_drew (like_self _))))) hg4 (own_blk_ne HRS1.out.row HRS1.out.x2 (by decide)); have r1 := hX4.cell 0; have r2 := hX4.frozen 0; have r3 := hX4.lt; simp only [List.getElem?_toArray, List.getElem?_cons_zero] at r1; obtain ⟨A4, c4, rfl, hc4⟩ := own_form hown4; clear hX4 hown4 hg4 hat4) | (refine step_append_any _ rfl _ _ _ (by rfl) b2 3 i0 _ 1 8 Tryz.underlying22 hi0 hz01 hz02 hz03 rfl (by omega) (.slice AS p cS) p (enc ic ss) (by rfl) (own_ahead (show World.ownsRow wr b2 3 1 (.slice AS p cS) p (enc ic ss) from by have := HRS1.out.row; rwa [hml] at this) _ (by (first | exact like_self _ | exact like_drew (like_self _) | exact like_drew (like_drew (like_self _)) | exact like_drew (like_drew (like_drew (like_self _)))))) _ 1 1 _ (by rfl) (reads_drew (Reads.new _ _ rfl)) (by simp [Value.oneCell']) (fun e => by cases e) (by simp only [maxLen]; omega) (by omega) (by first | omega | (simp; omega)) ?_; intro v4 w4 hown4 hg4 hat4; have HRM := Lib.hid (RS.more HRS1.out HRI.out hml _ (by (first | exact like_self _ | exact like_drew (like_self _) | exact like_drew (like_drew (like_self _)) | exact like_drew (like_drew (like_drew (like_self _))))) hg4 hown4 hat4); have hX4 := grow_keep HRS1.out.x2 _ (by (first | exact like_self _ | exact like_drew (like_self _) | exact like_drew (like_drew (like_self _)) | exact like_drew (like_drew (like_drew (like_self _))))) hg4 (own_blk_ne HRS1.out.row HRS1.out.x2 (by decide)); have r1 := hX4.cell 0; have r2 := hX4.frozen 0; have r3 := hX4.lt; simp only [List.getElem?_toArray, List.getElem?_cons_zero] at r1; obtain ⟨A4, c4, rfl, hc4⟩ := own_form hown4; clear hX4 hown4 hg4 hat4))
                  all_goals
                    go_wp2
                    go_roundw
                    case rel =>
                      refine ⟨p + 1, AO, cO, A4, c4, by omega, by go_num, ?_, Lib.hid ?_, Lib.hid ?_⟩
                      · rw [HTM.out, HXX.out]
                      · rw [HTM.out, HXX.out]
                        skip
                        skip
                        exact RI.like HRM.out.2 (by first | exact like_self _ | exact like_drew (like_self _))
                      · rw [HTM.out, HXX.out]
                        skip
                        skip
                        exact RS.like HRM.out.1 (by first | exact like_self _ | exact like_drew (like_self _))
                    case measure => simp [intOf]; omega

                · skip
                  have hpl : placeOf o a = 0 := placeOf_zero.2 ham
                  rw [hpl] at p0
                  have ha1 : 0 < a := by omega
                  have ha2 : (0 : Int) ≤ a := by omega
                  have ha3 : a ≤ (g.nodes.length : Int) := hng.2
                  have ha4 : a < (g.nodes.length : Int) + 1 := by omega
                  have HXX := Lib.hid (meet1_new ha0 ham)
                  have HAM := Lib.hid ham
                  have hop2 := HRI.out.met.own
                  have HNO := Lib.hid HRI.out.met.apart
                  clear ham ha0 hpl
                  have y9 := HRI.out.out.lt
                  have y8 := HRI.out.lnp
                  go_wp2_with (refine wpList_append_any _ (by rfl) _ _ _ (by rfl) np 3 i0 _ 1 8 Tryz.underlying22 hi0 hz01 hz02 hz03 rfl (by omega) (.slice AO o.length cO) o.length (enc ic o) (by rfl) (own_below hop2 (below_1 _ _)) _ 1 1 _ (by rfl) (Reads.new _ _ rfl) (by simp [Value.oneCell']) (fun e => by cases e) (by simp only [maxLen]; omega) (by omega) (by first | omega | (simp; omega)) ?_; intro v4 w4 hown4 hg4 hat4; have hX4 := grow_keep HRI.out.met.plc _ (like_self _) hg4 HNO.out; have r1 := (hX4.cell a.toNat).trans (((HRI.out.met.plc).cell a.toNat).symm.trans p0); have r2 := hX4.frozen a.toNat; have r3 := hX4.lt; have HMV := Lib.hid (HRI.out.met.add ha2 ha3 HAM.out _ (like_self _) hg4 hown4 hat4); have HAT := Lib.hid hat4; obtain ⟨A5, c5, rfl, hc5⟩ := own_form hown4; clear hX4 hown4 hg4 hat4 hop2)
                  have HRJ := Lib.hid (HRI.out.place HMV.out.1 HMV.out.2 (HAT.out.imp id (fun e => ⟨_, e, by simp⟩)))
                  have HRT := Lib.hid (HRS1.out.place HRI.out HMV.out.2 (HAT.out.imp id (fun e => ⟨_, e, by simp⟩)))
                  have p5 := HRJ.out.met.at_ a ha2 ha3
                  have HPX := Lib.hid (show placeOf (o ++ [a]) a = (o.length : Int) + 1 by rw [placeOf_snoc HAM.out, if_pos rfl])
                  rw [HPX.out] at p5
                  clear HMV r1 r2 r3
                  generalize w4.setCell ⟨np, a.toNat, none⟩ (.int .i64 ((o.length : Int) + 1)) = w5 at HRJ HRT p5 ⊢
                  have y0 := HRT.out.x2.cell 0
                  have y1 := HRT.out.x2.frozen 0
                  have y2 := HRT.out.x2.lt
                  simp only [List.getElem?_toArray, List.getElem?_cons_zero] at y0
                  go_region_law (first | (refine step_append_any _ rfl _ _ _ (by rfl) b2 3 i0 _ 1 8 Tryz.underlying22 hi0 hz01 hz02 hz03 rfl (by omega) (.slice AS p cS) p (enc ic ss) (by rfl) (own_ahead (show World.ownsRow w5 b2 3 1 (.slice AS p cS) p (enc ic ss) from by have := HRT.out.row; rwa [hml] at this) _ (by (first | exact like_self _ | exact like_drew (like_self _) | exact like_drew (like_drew (like_self _)) | exact like_drew (like_drew (like_drew (like_self _)))))) _ 1 1 _ (by rfl) (Reads.new _ _ rfl) (by simp [Value.oneCell']) (fun e => by cases e) (by simp only [maxLen]; omega) (by omega) (by first | omega | (simp; omega)) ?_; intro v4 w4 hown4 hg4 hat4; have HRM := Lib.hid (RS.more HRT.out HRJ.out hml _ (by (first | exact like_self _ | exact like_drew (like_self _) | exact like_drew (like_drew (like_self _)) | exact like_drew (like_drew (like_drew (like_self _))))) hg4 hown4 hat4); have hX4 := grow_keep HRT.out.x2 _ (by (first | exact like_self _ | exact like_drew (like_self _) | exact like_drew (like_drew (like_self _)) | exact like_drew (like_drew (like_drew (like_self _))))) hg4 (own_blk_ne HRT.out.row HRT.out.x2 (by decide)); have r1 := hX4.cell 0; have r2 := hX4.frozen 0; have r3 := hX4.lt; simp only [List.getElem?_toArray, List.getElem?_cons_zero] at r1; obtain ⟨A4, c4, rfl, hc4⟩ := own_form hown4; clear hX4 hown4 hg4 hat4) | (refine step_append_any _ rfl _ _ _ (by rfl) b2 3 i0 _ 1 8 Tryz.underlying22 hi0 hz01 hz02 hz03 rfl (by omega) (.slice AS p cS) p (enc ic ss) (by rfl) (own_ahead (show World.ownsRow w5 b2 3 1 (.slice AS p cS) p (enc ic ss) from by have := HRT.out.row; rwa [hml] at this) _ (by (first | exact like_self _ | exact like_drew (like_self _) | exact like_drew (like_drew (like_self _)) | exact like_drew (like_drew (like_drew (like_self _)))))) _ 1 1 _ (by rfl) (reads_drew (Reads.new _ _ rfl)) (by simp [Value.oneCell']) (fun e => by cases e) (by simp only [maxLen]; omega) (by omega) (by first | omega | (simp; omega)) ?_; intro v4 w4 hown4 hg4 hat4; have HRM := Lib.hid (RS.more HRT.out HRJ.out hml _ (by (first | exact like_self _ | exact like_drew (like_self _) | exact like_drew (like_drew (like_self _)) | exact like_drew (like_drew (like_drew (like_self _))))) hg4 hown4 hat4); have hX4 := grow_keep HRT.out.x2 _ (by (first | exact like_self _ | exact like_drew (like_self _) | exact like_drew (like_drew (like_self _)) | exact like_drew (like_drew (like_drew (like_self _))))) hg4 (own_blk_ne HRT.out.row HRT.out.x2 (by decide)); have r1 := hX4.cell 0; have r2 := hX4.frozen 0; have r3 := hX4.lt; simp only [List.getElem?_toArray, List.getElem?_cons_zero] at r1; obtain ⟨A4, c4, rfl, hc4⟩ := own_form hown4; clear hX4 hown4 hg4 hat4))
                  all_goals
                    go_wp2
                    go_roundw
                    case rel =>
                      refine ⟨p + 1, A5, c5, A4, c4, by omega, by go_num, ?_, Lib.hid ?_, Lib.hid ?_⟩
                      · rw [HTM.out, HXX.out]; simp
                      · rw [HTM.out, HXX.out]
                        show RI _ _ _ _ _ _ _ (.slice _ (_ ++ [_]).length _) _ _ _ _ _ _ _
                        rw [List.length_append, List.length_singleton]
                        exact RI.like HRM.out.2 (by first | exact like_self _ | exact like_drew (like_self _))
                      · rw [HTM.out, HXX.out]
                        show RS _ _ _ (.slice _ (_ ++ [_]).length _) _ _ _ _
                        rw [List.length_append, List.length_singleton]
                        exact RS.like HRM.out.1 (by first | exact like_self _ | exact like_drew (like_self _))
                    case measure => simp [intOf]; omega

            · have hps : p = x.slots.length := by omega
              subst hps
              have hgrow := meet_grow o x.slots
              have hssl : (meet o x.slots).2.length = x.slots.length := meet_len _ _
              rw [List.take_length] at HRI HRS1 hol ⊢
              clear hord
              generalize (meet o x.slots).2 = ss at HRS1 HSTEP hssl ⊢
              generalize (meet o x.slots).1 = o1 at HRI HRS1 HSTEP HOM hol hgrow ⊢
              have hbz := HRS1.out.x2.lt
              have hl12 := HRS1.out.l1
              have hlnp := HRI.out.lnp
              have hlop := HRI.out.lop
              have y5 := HRS1.out.x2.cell 1
              simp only [List.getElem?_toArray, List.getElem?_cons_zero, List.getElem?_cons_succ] at y5
              go_upto_region 30 with (refine wpList_append_any _ (by rfl) _ _ _ (by rfl) b2 3 i0 _ 1 8 Tryz.underlying22 hi0 hz01 hz02 hz03 rfl (by omega) (.slice none 0 0) 0 [] (by rfl) (own_nil _ _ _ _) Bs x.words.length ds (enc ic x.words) (by rfl) ((HI2.out.below (HRI.out.below.mono (Nat.le_of_eq HW.out.2.1))).1) (ic_one _) (fun e => HI2.out.1.len ic_len (by omega) e) (by simp only [maxLen]; omega) (by omega) (by first | omega | (simp; omega)) ?_; intro v4 w4 hown4 hg4 hat4; simp only [Nat.zero_add, List.nil_append] at hown4; have hx4 := HRS1.out.x2.mod (Mod.of_grown hg4) (by simp [Value.ownBlock]); have r1 := hx4.cell 1; have r2 := hx4.frozen 1; have r3 := hx4.lt; simp only [List.getElem?_toArray, List.getElem?_cons_zero, List.getElem?_cons_succ] at r1; obtain ⟨AW, cW, rfl, hcW⟩ := own_form hown4; have HXW := Lib.hid hx4; have HOW := Lib.hid hown4; have HGW := Lib.hid hg4; have HAW := Lib.hid hat4; clear hx4 hown4 hg4 hat4)
              have hM29 : Base.Mod (fun b => b = b2) wr (w4.setCell ⟨b2, 1, none⟩ (.slice AW x.words.length cW)) := mod_set' (S := fun b => b = b2) ((Mod.of_grown HGW.out).mono (fun b _ e => by simp [Value.ownBlock] at e)) rfl _
              have hri7 := HRI.out.step hM29 (fun b _ e => by omega) (fun q e e' => by subst e'; exact own_blk_ne HRI.out.met.own HRS1.out.x2 (by decide) e)
              have hrs7 := own_mod HRS1.out.row hM29 (fun q e e' => by subst e'; exact own_blk_ne HRS1.out.row HRS1.out.x2 (by decide) e)
              have hx7 := HXW.out.set_ 1 (.slice AW x.words.length cW)
              have hvW : (Value.slice AW x.words.length cW).ownBlock ≠ some b2 := by
                rcases HAW.out with e | e
                · rw [e]; simp [Value.ownBlock]
                · rw [e]; intro e; injection e with e; omega
              have how7 := own_far HOW.out (p := ⟨b2, 1, none⟩) hvW (.slice AW x.words.length cW)
              rw [hssl] at hrs7
              have hca : ∀ q, (Value.slice AS x.slots.length cS).ownBlock = some q → ¬ HotB np (np + 1) (.slice AO o1.length cO) (.slice AN k cN) q := by
                intro q hq hh
                have h1 := (own_block HRS1.out.row q hq).1
                rcases hh with e | e | e | e
                · omega
                · omega
                · exact HRS1.out.ap q e hq
                · exact own_own_ne HRS1.out.row HRI.out.row.own (by decide) q hq e
              have hcb : ∀ q, (Value.slice AW x.words.length cW).ownBlock = some q → ¬ HotB np (np + 1) (.slice AO o1.length cO) (.slice AN k cN) q := by
                intro q hq hh
                have hqe : q = wr.heap.size := by
                  rcases HAW.out with e | e
                  · rw [e] at hq; simp [Value.ownBlock] at hq
                  · rw [e] at hq; injection hq with hq; exact hq.symm
                rcases hh with e | e | e | e
                · omega
                · omega
                · have := (own_block HRI.out.met.own q e).2; omega
                · have := HRI.out.lN q e; omega
              have HCA := Lib.hid (CInts.of_own hrs7 (by omega) (show np ≤ b2 by omega) hca)
              have HCB := Lib.hid (CInts.of_own how7 (by omega) (show np ≤ b2 by omega) hcb)
              have HRJ := Lib.hid hri7.done
              have HX7 := Lib.hid hx7
              clear r1 r2 r3 y5 HXW HOW HGW HAW hM29 hri7 hrs7 hx7 hvW how7 hca hcb HRI HRS1 x0 x1
              generalize w4.setCell ⟨b2, 1, none⟩ (.slice AW x.words.length cW) = w7 at HCA HCB HRJ HX7 ⊢
              have hrow7 := HRJ.out.row.own
              rw [HNL.out] at hrow7
              have s0 := HX7.out.cell 0
              have s1 := HX7.out.cell 1
              have s2 := HRJ.out.out.cell 1
              have s3 := HX7.out.lt
              have s4 := HRJ.out.out.lt
              simp only [List.getElem?_toArray, List.getElem?_cons_zero, List.getElem?_cons_succ, Array.getElem?_setIfInBounds] at s0 s1 s2
              go_wp2_with (refine wpList_append_any _ (by rfl) _ _ _ (by rfl) np 55 i1 _ 2 48 Tryz.underlying23 hi1 hz11 hz12 hz13 rfl (by omega) (.slice AN k cN) k xs (by rfl) (own_below hrow7 (below_1 _ _)) _ 1 1 _ (by rfl) (Reads.new _ _ rfl) (by simp [Value.oneCell']) (fun e => by cases e) (by simp only [maxLen]; omega) (by omega) (by first | omega | (simp; omega)) ?_; intro v4 w4 hown4 hg4 hat4; have hx4 := grow_keep HRJ.out.out _ (like_self _) hg4 (own_blk_ne hrow7 HRJ.out.out (by decide)); have r1 := hx4.cell 1; have r2 := hx4.frozen 1; have r3 := hx4.lt; simp only [List.getElem?_toArray, List.getElem?_cons_zero, List.getElem?_cons_succ] at r1; have HRK := Lib.hid (RB.snoc HRJ.out ⟨ss, x.words⟩ hssl rfl HNL.out HCA.out HCB.out _ (like_self _) hg4 hown4 hat4); obtain ⟨A6, c6, rfl, hc6⟩ := own_form hown4; clear hx4 hown4 hg4 hat4)
              go_roundg (g.nodes.length + 1 - (k + 1))
              case measure => omega
              case rel => exact ⟨k + 1, o1, AO, cO, A6, c6, _, _, by omega, rfl, by go_num, rfl, HRK, Lib.hid (by rw [List.length_append, HNL.out]; rfl), HOM, Lib.hid (by rw [show g.nodes.length + 1 - (k + 1) = g.nodes.length - k by omega]; exact HSTEP.out)⟩
      · obtain rfl : k = o.length := by omega
        have hcn := HE.out
        rw [canonGo_stop _ _ _ _ _ hlt] at hcn
        have h2 := HRB.out.out
        have t0 := h2.cell 0
        have t1 := h2.cell 1
        have t2 := h2.lt
        simp only [List.getElem?_toArray, List.getElem?_cons_zero, List.getElem?_cons_succ] at t0 t1
        have hT := HT4.out.below HRB.out.below hle
        have q0 := hT.cell 0
        have q1 := hT.cell 1
        have q2 := hT.frozen 0
        have q3 := hT.frozen 1
        have q4 := hT.lt
        simp only [List.getElem?_toArray, List.getElem?_cons_zero, List.getElem?_cons_succ] at q0 q1
        have HTB := Lib.hid hT
        have HCN := Lib.hid hcn
        clear hT hcn h2
        go_wp2_with fail
        have hB2 : Blk ((wr.setCell ⟨w.heap.size + 1, 0, none⟩ (.slice AR rs0.length cR)).setCell ⟨w.heap.size + 1, 1, none⟩ (.slice AN o.length cN)) (w.heap.size + 1) 25 #[.slice AR rs0.length cR, .slice AN o.length cN] := (HTB.out.set_ 0 _).set_ 1 _
        refine bodyPost_ret (v := .agg #[.slice AR rs0.length cR, .slice AN o.length cN]) (results_cell_row rfl _ _ (w.heap.size + 1) 25 _ (0, 0) _ rfl hB2 Tryz.underlying25 rfl graphSize) rfl ?_
        have hfin : Below w.heap.size w ((wr.setCell ⟨w.heap.size + 1, 0, none⟩ (.slice AR rs0.length cR)).setCell ⟨w.heap.size + 1, 1, none⟩ (.slice AN o.length cN)) := ((HB2.out.trans (HRB.out.below.mono (by omega))).setCell (by simp) _).setCell (by simp) _
        have hml : Mod (fun b => b = w.heap.size + 1) wr ((wr.setCell ⟨w.heap.size + 1, 0, none⟩ (.slice AR rs0.length cR)).setCell ⟨w.heap.size + 1, 1, none⟩ (.slice AN o.length cN)) := mod_set' (S := fun b => b = w.heap.size + 1) (mod_set' (S := fun b => b = w.heap.size + 1) (Mod.refl _ _) rfl _) rfl _
        have hl1 : (canonM g more).roots.length = rs0.length := by rw [HRR.out]
        have hl2 : (canonM g more).nodes.length = o.length := by rw [← HCN.out, HNL.out]
        refine ⟨AR, cR, AN, cN, by rw [hl1, hl2], ?_, hfin⟩
        have hrl : rs0.length ≤ 17592186044416 := HRB.out.roots.1.2
        have hfm := HRB.out.row.firm (cr := cR) HRB.out.roots (Nat.le_refl _) (by rw [HNL.out]; omega)
        rw [HCN.out, HRR.out] at hfm
        exact (hfm.mod hml (by rintro b rfl; omega)).low (by omega)

end Go.Proofs.YteminkohgagedaaGreat.Gr

