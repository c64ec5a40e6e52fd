/- flittinglaw16.GraphTurned: its walk. -/
import Derived.Test.YtbelbhdhcgpcpaaDoorGrTurned
import Derived.Test.YtbelbhdhcgpcpaaDoorGrFilled
import Derived.Test.YtbelbhdhcgpcpaaDoorGrMore
import Derived.Test.YtbelbhdhcgpcpaaDoorGrTwo
namespace Go.Proofs.YtbelbhdhcgpcpaaDoor.Gr
open Go.RowKit Go.Proofs.YtbelbhdhcgpcpaaDoor.Base Go.Proofs.YtbelbhdhcgpcpaaDoor.Str
set_option linter.unusedVariables false
set_option linter.unusedSimpArgs false

set_option maxRecDepth 100000 in
set_option maxHeartbeats 8000000 in
theorem turned_walk (A D : Option Addr) (g : Gr) (a d : Nat) (turn more : Int) (w : World) (ht : Tab w) (hA : Ints w A g.roots) (hD : Nodes w D g.nodes) :
    Calls Tryd.prog 3 #[.agg #[.slice A g.roots.length a, .slice D g.nodes.length d], .int .i64 turn, .int .i64 more] w fun e w' => e = .returned (.bool true) ∧ Below w.heap.size w w' := by
  have HA := Lib.hid hA
  have HD := Lib.hid hD
  have HT := Lib.hid ht
  have HG := Lib.hid (Blk.new w 25 #[.slice A g.roots.length a, .slice D g.nodes.length d])
  have HB := Lib.hid (below_1 w (.cells #[.slice A g.roots.length a, .slice D g.nodes.length d] 25))
  clear hA hD ht
  go_enter Tryd.func3, Tryd.ntmps3
  go_wp2_with fail
  refine (light_any A D g a d _ (HA.out.below HB.out) (HD.out.below HB.out)).mono ?_
  rintro e w1 ⟨⟨b, rfl, hb⟩, hb1⟩
  have HB1 := Lib.hid (below_then HB.out hb1)
  have HG1 := Lib.hid (HG.out.below hb1 HG.out.lt)
  have HS := Lib.hid hb
  have K1 := Lib.hid (alive_any w1 (HT.out.below HB1.out))
  clear hb hb1 HG
  cases b
  · go_wp2_with fail
    refine K1.out.mono ?_
    rintro e w2 ⟨rfl, hb2⟩
    have HB2 := Lib.hid (below_then HB1.out hb2)
    clear hb2
    go_wp2
    go_ret
    exact ⟨rfl, HB2.out⟩
  by_cases hm0 : more < 0
  · have d0 : decide (more < 0) = true := decide_eq_true hm0
    go_wp2_with fail
    refine K1.out.mono ?_
    rintro e w2 ⟨rfl, hb2⟩
    have HB2 := Lib.hid (below_then HB1.out hb2)
    clear hb2
    go_wp2
    go_ret
    exact ⟨rfl, HB2.out⟩
  have d0 : decide (more < 0) = false := decide_eq_false hm0
  by_cases hm20 : more > 20
  · have d1 : decide (more > 20) = true := decide_eq_true hm20
    go_wp2_with fail
    refine K1.out.mono ?_
    rintro e w2 ⟨rfl, hb2⟩
    have HB2 := Lib.hid (below_then HB1.out hb2)
    clear hb2
    go_wp2
    go_ret
    exact ⟨rfl, HB2.out⟩
  have d1 : decide (more > 20) = false := decide_eq_false hm20
  obtain ⟨m, rfl⟩ : ∃ m : Nat, more = m := ⟨more.toNat, by omega⟩
  have hm : m ≤ 20 := by omega
  go_wp2_with fail
  refine K1.out.mono ?_
  rintro e w2 ⟨rfl, hb2⟩
  have HB2 := Lib.hid (below_then HB1.out hb2)
  have HG2 := Lib.hid (HG1.out.below hb2 HG1.out.lt)
  have c0 := HG2.out.cell 0
  have c1 := HG2.out.cell 1
  simp only [List.getElem?_toArray, List.getElem?_cons_zero, List.getElem?_cons_succ] at c0 c1
  clear hb2 hm0 hm20
  go_wp2_with fail
  refine (eight_any A D g a d w2 (HS.out trivial) (HA.out.below HB2.out) (HD.out.below HB2.out)).mono ?_
  rintro e w3 ⟨v, rfl, hV, hb3⟩
  have HR8 := Lib.hid (eight_right (HS.out trivial))
  have h60 : (eight g).nodes.length ≤ 60 := by have h1 := (HS.out trivial).1; show (g.nodes.map _).length ≤ 60; rw [List.length_map]; exact h1
  have HB3 := Lib.hid (below_then HB2.out hb3)
  have HG3 := Lib.hid (HG2.out.below hb3 HG2.out.lt)
  have HV := Lib.hid hV
  have hzg := HG2.out.lt
  generalize eight g = h at hV HV HR8 h60
  obtain ⟨A3, a3, D3, d3, rfl, -, -⟩ := hV.now
  have HV3 := Lib.hid (show GrV ((w3.setCell ⟨w.heap.size, 0, none⟩ (.slice A3 h.roots.length a3)).setCell ⟨w.heap.size, 1, none⟩ (.slice D3 h.nodes.length d3)) (.agg #[.slice A3 h.roots.length a3, .slice D3 h.nodes.length d3]) h from
    HV.out (fun b => b = w.heap.size) _ (mod_set' (S := fun b => b = w.heap.size) (mod_set' (S := fun b => b = w.heap.size) (Mod.refl _ _) rfl _) rfl _) (by rintro b rfl; exact hzg))
  have HB4 := Lib.hid (show Below w.heap.size w ((w3.setCell ⟨w.heap.size, 0, none⟩ (.slice A3 h.roots.length a3)).setCell ⟨w.heap.size, 1, none⟩ (.slice D3 h.nodes.length d3)) from (HB3.out.setCell (by simp) _).setCell (by simp) _)
  have HG4 := Lib.hid (show Blk ((w3.setCell ⟨w.heap.size, 0, none⟩ (.slice A3 h.roots.length a3)).setCell ⟨w.heap.size, 1, none⟩ (.slice D3 h.nodes.length d3)) w.heap.size 25 #[.slice A3 h.roots.length a3, .slice D3 h.nodes.length d3] from
    (HG3.out.set_ 0 (.slice A3 h.roots.length a3)).set_ 1 (.slice D3 h.nodes.length d3))
  have x0 := HG3.out.cell 0
  have x1 := HG3.out.cell 1
  have f0 := HG3.out.frozen 0
  have f1 := HG3.out.frozen 1
  have x2 := HG3.out.lt
  simp only [List.getElem?_toArray, List.getElem?_cons_zero, List.getElem?_cons_succ] at x0 x1
  clear c0 c1 hb3 hV HV
  go_upto_region 4 with fail
  generalize (w3.setCell ⟨w.heap.size, 0, none⟩ (.slice A3 h.roots.length a3)).setCell ⟨w.heap.size, 1, none⟩ (.slice D3 h.nodes.length d3) = w4 at HV3 HB4 HG4 ⊢
  obtain ⟨_, _, _, _, e4, hA4, hD4⟩ := HV3.out
  injection e4 with e4
  obtain ⟨e5, e6⟩ : (Value.slice A3 h.roots.length a3 = Value.slice _ h.roots.length _) ∧ (Value.slice D3 h.nodes.length d3 = Value.slice _ h.nodes.length _) := by simpa using e4
  injection e5 with e5 _ e5'
  injection e6 with e6 _ e6'
  subst e5 e5' e6 e6'
  clear e4 x0 x1 f0 f1 x2 HG3 HB3 HG2 HB2 HG1
  have HA4 := Lib.hid hA4
  have HD4 := Lib.hid hD4
  clear hA4 hD4
  have hn8 := (right_fits HR8.out).1
  have y0 := HG4.out.cell 0
  have y1 := HG4.out.cell 1
  have y2 := HG4.out.lt
  simp only [List.getElem?_toArray, List.getElem?_cons_zero, List.getElem?_cons_succ] at y0 y1
  have HN4 := Lib.hid (Blk.new w4 3 #[.int .i64 (h.nodes.length : Int)])
  have HB4n := Lib.hid (below_1 w4 (.cells #[.int .i64 (h.nodes.length : Int)] 3))
  by_cases hz : h.nodes.length = 0
  · have hzb : ((h.nodes.length : Int) == 0) = true := beq_iff_eq.mpr (by omega)
    have HSM := Lib.hid (show same h h = true by simp [same, HR8.out])
    clear hz hn8
    go_wp2_with fail
    refine (same_any A3 D3 A3 D3 h h a3 d3 a3 d3 _ (HA4.out.below HB4n.out) (HD4.out.below HB4n.out) (HA4.out.below HB4n.out) (HD4.out.below HB4n.out)).mono ?_
    rw [HSM.out]
    rintro e w5 ⟨rfl, hb5⟩
    have HB5 := Lib.hid (below_then HB4.out (below_then HB4n.out hb5))
    clear hb5
    go_wp2_with fail
    go_ret
    exact ⟨rfl, HB5.out⟩
  have hzb : ((h.nodes.length : Int) == 0) = false := beq_eq_false_iff_ne.mpr (by omega)
  have hnp : 0 < h.nodes.length := by omega
  obtain ⟨k, hk⟩ : ∃ k : Nat, turn % (h.nodes.length : Int) = k := ⟨(turn % (h.nodes.length : Int)).toNat, by have := Int.emod_nonneg turn (b := (h.nodes.length : Int)) (by omega); omega⟩
  have hkn : k < h.nodes.length := by have := Int.emod_lt_of_pos turn (b := (h.nodes.length : Int)) (by omega); omega
  have hrem : (turn.tmod (h.nodes.length : Int) + h.nodes.length) % (h.nodes.length : Int) = k := by
    rw [← hk, Int.add_emod_right, Int.tmod_eq_emod]
    split
    · simp
    · have : (((h.nodes.length : Int).natAbs : Nat) : Int) = (h.nodes.length : Int) := by omega
      rw [this, Int.sub_emod, Int.emod_self]
      simp
  have htm1 : -(h.nodes.length : Int) < turn.tmod (h.nodes.length : Int) := Int.lt_tmod_of_pos turn (by omega)
  have htm2 : turn.tmod (h.nodes.length : Int) < (h.nodes.length : Int) := Int.tmod_lt_of_pos turn (by omega)
  clear hz hk hn8
  have hm20 := hm
  go_wp2_with fail
  go_region
  clear hrem htm1 htm2
  generalize (turn.tmod (h.nodes.length : Int) + (h.nodes.length : Int)) % (h.nodes.length : Int) = kk
  go_upto_block 0 with fail
  have hW : ∀ W, W = (((w4.alloc (.cells #[.int .i64 (h.nodes.length : Int)] 3)).alloc (.cells #[.int .i64 (k : Int)] 3)).alloc (.cells #[.slice none 0 0, .slice none 0 0] 25)).drew →
      Hid (Blk W w4.heap.size 3 #[.int .i64 (h.nodes.length : Int)]) ∧ Hid (Blk W (w4.heap.size + 1) 3 #[.int .i64 (k : Int)]) ∧ Hid (Blk W (w4.heap.size + 1 + 1) 25 #[.slice none 0 0, .slice none 0 0]) ∧
      Hid (Below ((w4.alloc (.cells #[.int .i64 (h.nodes.length : Int)] 3)).alloc (.cells #[.int .i64 (k : Int)] 3)).heap.size ((w4.alloc (.cells #[.int .i64 (h.nodes.length : Int)] 3)).alloc (.cells #[.int .i64 (k : Int)] 3)) W) := by
    rintro W rfl
    have h2 := Blk.new (w4.alloc (.cells #[.int .i64 (h.nodes.length : Int)] 3)) 3 #[.int .i64 (k : Int)]
    have h3 := Blk.new ((w4.alloc (.cells #[.int .i64 (h.nodes.length : Int)] 3)).alloc (.cells #[.int .i64 (k : Int)] 3)) 25 #[.slice none 0 0, .slice none 0 0]
    simp only [World.size_alloc] at h2 h3
    exact ⟨(((HN4.out.alloc _).alloc _).drewN 1), (h2.alloc _).drewN 1, h3.drewN 1, (below_1 _ _).drew⟩
  have HW := Lib.hid hW
  clear hW
  have hBs : Below w4.heap.size w4 ((w4.alloc (.cells #[.int .i64 (h.nodes.length : Int)] 3)).alloc (.cells #[.int .i64 (k : Int)] 3)) := below_then (below_1 _ _) (below_1 _ _)
  have hN5 : Blk ((w4.alloc (.cells #[.int .i64 (h.nodes.length : Int)] 3)).alloc (.cells #[.int .i64 (k : Int)] 3)) w4.heap.size 3 #[.int .i64 (h.nodes.length : Int)] := HN4.out.alloc _
  have hK5 : Blk ((w4.alloc (.cells #[.int .i64 (h.nodes.length : Int)] 3)).alloc (.cells #[.int .i64 (k : Int)] 3)) (w4.heap.size + 1) 3 #[.int .i64 (k : Int)] := by
    have h2 := Blk.new (w4.alloc (.cells #[.int .i64 (h.nodes.length : Int)] 3)) 3 #[.int .i64 (k : Int)]
    rw [World.size_alloc] at h2
    exact h2
  generalize hW5 : (w4.alloc (.cells #[.int .i64 (h.nodes.length : Int)] 3)).alloc (.cells #[.int .i64 (k : Int)] 3) = W5 at HW hBs hN5 hK5
  have HN5 := Lib.hid hN5
  have HK5 := Lib.hid hK5
  clear hN5 hK5
  have hsz5 : W5.heap.size = w4.heap.size + 1 + 1 := by rw [← hW5]; simp
  have HSZ := Lib.hid hsz5
  have HW5 := Lib.hid hW5
  have HBS := Lib.hid hBs
  clear hsz5 hW5 hBs
  obtain ⟨i0, hi0, hz01, hz02, hz03⟩ := info_parts1 intInfo
  go_cut [] (fun wx => ∃ (AS : Option Addr) (cS : Nat), Hid (Blk wx w4.heap.size 3 #[.int .i64 (h.nodes.length : Int)]) ∧ Hid (Blk wx (w4.heap.size + 1) 3 #[.int .i64 (k : Int)]) ∧ Hid (Blk wx (w4.heap.size + 1 + 1) 25 #[.slice AS h.roots.length cS, .slice none 0 0]) ∧
      Hid (Below (w4.heap.size + 1 + 1) W5 wx) ∧ Hid (wx.ownsRow (w4.heap.size + 1 + 1 + 1) 3 1 (.slice AS h.roots.length cS) h.roots.length (enc ic (h.roots.map (turnI h.nodes.length k)))))
  case first =>
    go_wp2_with fail
    go_loopw [11] (fun i wr => ∃ (j : Nat) (vS : Value), j ≤ h.roots.length ∧ i = .int .i64 j ∧ Hid (Blk wr w4.heap.size 3 #[.int .i64 (h.nodes.length : Int)]) ∧ Hid (Blk wr (w4.heap.size + 1) 3 #[.int .i64 (k : Int)]) ∧ Hid (Blk wr (w4.heap.size + 1 + 1) 25 #[vS, .slice none 0 0]) ∧
        Hid (Below (w4.heap.size + 1 + 1) W5 wr) ∧ Hid (wr.ownsRow (w4.heap.size + 1 + 1 + 1) 3 1 vS j (enc ic ((h.roots.take j).map (turnI h.nodes.length k))))) (fun i _ => h.roots.length - (intOf i).toNat)
    case atStart =>
      have hst := HW.out _ rfl
      rw [HSZ.out] at hst
      exact ⟨0, .slice none 0 0, Nat.zero_le _, rfl, hst.1, hst.2.1, hst.2.2.1, hst.2.2.2, Lib.hid (own_nil _ _ _ _)⟩
    case round =>
      obtain ⟨j, vS, hj, rfl, HN, HK, HX, HB5, HO⟩ := hrel
      have hsz5 := HSZ.out
      have HBw := Lib.hid (HBS.out.trans (HB5.out.mono (by omega)))
      have b0 := (HBw.out.cell (p := ⟨w.heap.size, 0, none⟩) y2).trans y0
      have x0 := HX.out.cell 0
      simp only [List.getElem?_toArray, List.getElem?_cons_zero, List.getElem?_cons_succ] at x0
      have zx := HX.out.lt
      have zw := HBw.out.size
      by_cases hlt : j < h.roots.length
      · obtain ⟨AS, cS, rfl, hcS⟩ := own_form HO.out
        obtain ⟨ad, rfl, d1'⟩ := (HA4.out.below HBw.out).at_ j hlt
        have HTs := Lib.hid (List.take_succ_eq_append_getElem hlt)
        have hv := (right_fits HR8.out).2.2.1 h.roots[j] (List.getElem_mem hlt)
        generalize h.roots[j] = v at d1' HTs hv
        obtain ⟨hv0, hv1⟩ := hv
        have hz4 := cell_lt d1'
        have HTO := Lib.hid (fun (W' : World) (hl : Like wr W') => to_any v h.nodes.length k (w4.heap.size + 1) w4.heap.size W' (Blk.like HK.out hl) (Blk.like HN.out hl) hnp (by omega) hkn hv0 hv1)
        have HNS := Lib.hid (own_blk_ne HO.out HX.out (by decide))
        have HNB := Lib.hid (show ∀ b, (Value.slice AS j cS).ownBlock = some b → b < W5.heap.size → ¬ b < w4.heap.size + 1 + 1 from fun b e hb => by have := (own_block HO.out b e).1; omega)
        have hj8 : h.roots.length ≤ 8 := by rw [(right_fits HR8.out).1]; exact Nat.le_refl _
        go_wp2
        go_region_law (first
          | ((try go_simp)
             go_at_call 14
             refine (HTO.out _ ?_).mono ?_
             (first | exact like_self _ | exact like_drew (like_self _) | exact like_drew (like_drew (like_self _)))
             rintro e w3' ⟨rfl, rfl⟩)
          | (refine step_append_any _ rfl _ _ _ (by rfl) (w4.heap.size + 1 + 1 + 1) 3 i0 _ 1 8 Tryd.underlying22 hi0 hz01 hz02 hz03 rfl (by omega) (.slice AS j cS) j _ (by rfl) (own_ahead HO.out _ (by (first | exact like_self _ | exact like_drew (like_self _) | exact like_drew (like_drew (like_self _))))) _ 1 1 _ (by rfl) (Reads.new _ _ rfl) (by simp [Value.oneCell']) (fun e => by cases e) (by simp only [maxLen]; omega) (by omega) (by simp; omega) ?_; intro v5 w5 hown5 hg5 hat5; obtain ⟨A5, cap5, rfl, hc5⟩ := own_form hown5; have hX5 := grow_keep HX.out _ (by (first | exact like_self _ | exact like_drew (like_self _) | exact like_drew (like_drew (like_self _)))) hg5 HNS.out; have hM5 := grow_mod (S := fun b => ¬ b < w4.heap.size + 1 + 1) (mod_far HB5.out) _ (by (first | exact like_self _ | exact like_drew (like_self _) | exact like_drew (like_drew (like_self _)))) hg5 HNB.out; have r1 := hX5.cell 0; have r2 := hX5.frozen 0; have r3 := hX5.lt; simp only [List.getElem?_toArray, List.getElem?_cons_zero, List.getElem?_cons_succ] at r1; have HX5 := Lib.hid hX5; have HM5 := Lib.hid hM5; have HO5 := Lib.hid hown5; have HA5 := Lib.hid hat5; clear hX5 hM5 hown5 hg5 hat5)
          | (refine step_append_any _ rfl _ _ _ (by rfl) (w4.heap.size + 1 + 1 + 1) 3 i0 _ 1 8 Tryd.underlying22 hi0 hz01 hz02 hz03 rfl (by omega) (.slice AS j cS) j _ (by rfl) (own_ahead HO.out _ (by (first | exact like_self _ | exact like_drew (like_self _) | exact like_drew (like_drew (like_self _))))) _ 1 1 _ (by rfl) (reads_drew (Reads.new _ _ rfl)) (by simp [Value.oneCell']) (fun e => by cases e) (by simp only [maxLen]; omega) (by omega) (by simp; omega) ?_; intro v5 w5 hown5 hg5 hat5; obtain ⟨A5, cap5, rfl, hc5⟩ := own_form hown5; have hX5 := grow_keep HX.out _ (by (first | exact like_self _ | exact like_drew (like_self _) | exact like_drew (like_drew (like_self _)))) hg5 HNS.out; have hM5 := grow_mod (S := fun b => ¬ b < w4.heap.size + 1 + 1) (mod_far HB5.out) _ (by (first | exact like_self _ | exact like_drew (like_self _) | exact like_drew (like_drew (like_self _)))) hg5 HNB.out; have r1 := hX5.cell 0; have r2 := hX5.frozen 0; have r3 := hX5.lt; simp only [List.getElem?_toArray, List.getElem?_cons_zero, List.getElem?_cons_succ] at r1; have HX5 := Lib.hid hX5; have HM5 := Lib.hid hM5; have HO5 := Lib.hid hown5; have HA5 := Lib.hid hat5; clear hX5 hM5 hown5 hg5 hat5))
        all_goals
          go_wp2
          go_roundw
          case rel =>
            have hv5 : (Value.slice A5 (j + 1) cap5).ownBlock ≠ some (w4.heap.size + 1 + 1) := by
              rcases HA5.out with e | e
              · rw [e]; exact HNS.out
              · rw [e]; intro e; injection e with e; simp at e; omega
            have hb := mod_near HM5.out (by omega)
            have hbs : Below (w4.heap.size + 1 + 1) W5 (w5.setCell ⟨w4.heap.size + 1 + 1, 0, none⟩ (.slice A5 (j + 1) cap5)) := hb.setCell (by simp) _
            have hN := HN5.out.below hbs (by omega)
            have hK := HK5.out.below hbs (by omega)
            have hX : Blk (w5.setCell ⟨w4.heap.size + 1 + 1, 0, none⟩ (.slice A5 (j + 1) cap5)) (w4.heap.size + 1 + 1) 25 #[.slice A5 (j + 1) cap5, .slice none 0 0] := HX5.out.set_ 0 _
            have hO : (w5.setCell ⟨w4.heap.size + 1 + 1, 0, none⟩ (.slice A5 (j + 1) cap5)).ownsRow (w4.heap.size + 1 + 1 + 1) 3 1 (.slice A5 (j + 1) cap5) (j + 1) (enc ic ((h.roots.take (j + 1)).map (turnI h.nodes.length k))) := by
              rw [HTs.out, List.map_append, enc_append]
              exact own_far HO5.out hv5 _
            first
              | exact ⟨j + 1, .slice A5 (j + 1) cap5, by omega, by go_num, Lib.hid hN, Lib.hid hK, Lib.hid hX, Lib.hid hbs, Lib.hid hO⟩
              | (rw [List.map_take] at hO
                 exact ⟨j + 1, by omega, by omega, Lib.hid hN, Lib.hid hK, .slice A5 (j + 1) cap5, Lib.hid hX, Lib.hid hbs, Lib.hid hO⟩)
          case measure => simp [intOf]; omega
      · go_wp2_with fail
        go_meet
        have hjl : j = h.roots.length := by omega
        subst hjl
        obtain ⟨AS, cS, rfl, hcS⟩ := own_form HO.out
        rw [List.take_length] at HO
        exact ⟨AS, cS, HN, HK, HX, HB5, HO⟩
  case rest =>
    obtain ⟨AR, cR, HN, HK, HX, HB5, HR⟩ := hcut
    obtain ⟨wy, hwy⟩ : ∃ wy, wy = wc := ⟨_, rfl⟩
    subst hwy
    have hsz5 := HSZ.out
    have HBw := Lib.hid (HBS.out.trans (HB5.out.mono (by omega)))
    have n0 := HN.out.cell 0
    have xf1 := HX.out.frozen 1
    have xc1 := HX.out.cell 1
    have zx := HX.out.lt
    simp only [List.getElem?_toArray, List.getElem?_cons_zero, List.getElem?_cons_succ] at n0 xc1
    have zn := HN.out.lt
    have hmk2 := make_nodes h.nodes.length (by omega)
    have hst : ∀ W, W = ((wy.setCell ⟨w4.heap.size + 1 + 1, 1, none⟩ (.slice (some ⟨wy.heap.size, 0, none⟩) h.nodes.length h.nodes.length)).alloc (.cells (enc pr (List.replicate h.nodes.length (Value.slice none 0 0, Value.slice none 0 0))).toArray 32)) →
        Hid (Blk W (w4.heap.size + 1 + 1) 25 #[.slice AR h.roots.length cR, .slice (some ⟨wy.heap.size, 0, none⟩) h.nodes.length h.nodes.length]) ∧ Hid (Blk W wy.heap.size 32 (enc pr (List.replicate h.nodes.length (Value.slice none 0 0, Value.slice none 0 0))).toArray) ∧
        Hid (CInts W (fun b => b = w4.heap.size + 1 + 1 ∨ b = wy.heap.size) 0 AR (h.roots.map (turnI h.nodes.length k))) ∧ Hid (Below (w4.heap.size + 1 + 1) W5 W) := by
      rintro W rfl
      have hX1 := (HX.out.set_ 1 (.slice (some ⟨wy.heap.size, 0, none⟩) h.nodes.length h.nodes.length)).alloc (.cells (enc pr (List.replicate h.nodes.length (Value.slice none 0 0, Value.slice none 0 0))).toArray 32)
      have hM1 := Blk.new (wy.setCell ⟨w4.heap.size + 1 + 1, 1, none⟩ (.slice (some ⟨wy.heap.size, 0, none⟩) h.nodes.length h.nodes.length)) 32 (enc pr (List.replicate h.nodes.length (Value.slice none 0 0, Value.slice none 0 0))).toArray
      have hsS : (wy.setCell ⟨w4.heap.size + 1 + 1, 1, none⟩ (.slice (some ⟨wy.heap.size, 0, none⟩) h.nodes.length h.nodes.length)).heap.size = wy.heap.size := by simp [World.setCell]
      rw [hsS] at hM1
      have hc : CInts wy (fun b => b = w4.heap.size + 1 + 1 ∨ b = wy.heap.size) 0 AR (h.roots.map (turnI h.nodes.length k)) := CInts.of_own HR.out (by rw [(right_fits HR8.out).1]; omega) (by omega) (fun q hq => by
        have := own_block HR.out q hq
        rintro (e | e) <;> omega)
      have hm : Mod (fun b => b = w4.heap.size + 1 + 1) wy ((wy.setCell ⟨w4.heap.size + 1 + 1, 1, none⟩ (.slice (some ⟨wy.heap.size, 0, none⟩) h.nodes.length h.nodes.length)).alloc (.cells (enc pr (List.replicate h.nodes.length (Value.slice none 0 0, Value.slice none 0 0))).toArray 32)) :=
        Mod.trans (mod_set' (S := fun b => b = w4.heap.size + 1 + 1) (Mod.refl _ _) rfl _) (Mod.of_below (S := fun _ => False) (below_1 _ _)) (fun _ _ h => h.elim)
      refine ⟨hX1, hM1, hc.step hm (fun b _ e => .inl (.inl e)) (fun q h => .inl h), ?_⟩
      exact (HB5.out.setCell (by simp) _).alloc (by omega) _
    have HST := Lib.hid hst
    clear hst
    go_upto_block 2 with fail
    go_cut [] (fun wx => ∃ cs, Hid (Blk wx (w4.heap.size + 1 + 1) 25 #[.slice AR h.roots.length cR, .slice (some ⟨wy.heap.size, 0, none⟩) h.nodes.length h.nodes.length]) ∧ Hid (Blk wx wy.heap.size 32 (enc pr cs).toArray) ∧
        Hid (CInts wx (fun b => b = w4.heap.size + 1 + 1 ∨ b = wy.heap.size) 0 AR (h.roots.map (turnI h.nodes.length k))) ∧ Hid (Filled wx (fun b => b = w4.heap.size + 1 + 1 ∨ b = wy.heap.size) h k h.nodes.length cs) ∧ Hid (Below (w4.heap.size + 1 + 1) W5 wx))
    case first =>
      go_wp2_with fail
      go_loopg [12] h.nodes.length (fun gl i wr => ∃ (j : Nat) (cs : List (Value × Value)), j ≤ h.nodes.length ∧ gl = h.nodes.length - j ∧ i = .int .i64 j ∧ Hid (Blk wr (w4.heap.size + 1 + 1) 25 #[.slice AR h.roots.length cR, .slice (some ⟨wy.heap.size, 0, none⟩) h.nodes.length h.nodes.length]) ∧ Hid (Blk wr wy.heap.size 32 (enc pr cs).toArray) ∧
        Hid (CInts wr (fun b => b = w4.heap.size + 1 + 1 ∨ b = wy.heap.size) 0 AR (h.roots.map (turnI h.nodes.length k))) ∧ Hid (Filled wr (fun b => b = w4.heap.size + 1 + 1 ∨ b = wy.heap.size) h k j cs) ∧ Hid (Below (w4.heap.size + 1 + 1) W5 wr))
      case atStart =>
        obtain ⟨s1, s2, s3, s4⟩ := HST.out _ rfl
        exact ⟨0, _, Nat.zero_le _, by omega, rfl, s1, s2, s3, Lib.hid ⟨by simp, fun j hj hb => absurd hb (by omega)⟩, s4⟩
      case round =>
        obtain ⟨wq, hwq⟩ : ∃ wq, wq = wr := ⟨_, rfl⟩
        obtain ⟨j, cs, hj, rfl, rfl, HXr, HMr, HRr, HFr, HBr⟩ := hrel
        subst hwq
        have HBw4 := Lib.hid (HBS.out.trans (HBr.out.mono (by omega)))
        have nc := (HN5.out.below HBr.out (by omega)).cell 0
        have kc := (HK5.out.below HBr.out (by omega)).cell 0
        have b1 := (HBw4.out.cell (p := ⟨w.heap.size, 1, none⟩) y2).trans y1
        simp only [List.getElem?_toArray, List.getElem?_cons_zero, List.getElem?_cons_succ] at nc kc
        have zw4 := HBw4.out.size
        have zwr := HBr.out.size
        have zpq : w.heap.size < wq.heap.size := by omega
        have zNq : w4.heap.size < wq.heap.size := by omega
        have zKq : w4.heap.size + 1 < wq.heap.size := by omega
        have zXq := HXr.out.lt
        have zMr := HMr.out.lt
        by_cases hlt : j < h.nodes.length
        · obtain ⟨dd, As, cs', Bs, ds, rfl, d2, d3, i1, i2⟩ := nds_at (HD4.out.below HBw4.out) j hlt
          have hxf := (right_fits HR8.out).2.2.2 h.nodes[j] (List.getElem_mem hlt)
          have HI2c := Lib.hid (show CInts wq (fun b => b = w4.heap.size + 1 + 1 ∨ b = wy.heap.size) 0 Bs h.nodes[j].words from by
            obtain ⟨dd4, As4, cs4, Bs4, ds4, hdd, e2, e3, k1, k2⟩ := nds_at HD4.out j hlt
            injection hdd with hdd
            subst hdd
            have h3 := (HBw4.out.cell (p := ⟨(dd.add (j * 2)).block, (dd.add (j * 2)).off + 1, none⟩) (cell_lt (a := ⟨(dd.add (j * 2)).block, (dd.add (j * 2)).off + 1, none⟩) e3)).trans e3
            rw [d3] at h3
            injection h3 with h3
            injection h3 with h3 _ _
            subst h3
            exact CInts.of_old k2 HBw4.out (by rintro q (e | e) <;> omega))
          have HPUT := Lib.hid (fun (W : World) (hot : Nat → Prop) (hF : Filled W hot h k j cs) (A B : Option Addr) (c d sl wl : Nat) => hF.put hkn hlt (A := A) (B := B) (c := c) (d := d) (sl := sl) (wl := wl))
          generalize h.nodes[j] = x at d2 d3 i1 i2 hxf HI2c HPUT
          have z2 := cell_lt d2
          have z3 := cell_lt d3
          have HI1 := Lib.hid i1
          have hx1 := hxf.1
          have hx2 := hxf.2.1
          have HXS := Lib.hid hxf.2.2.1
          have HD2 := Lib.hid d2
          have HNY := Lib.hid (Blk.new wq 32 #[.slice none 0 0, .slice Bs x.words.length ds])
          clear i1 i2 hxf
          go_upto_block 4 with fail
          go_cut [] (fun wx => ∃ (AS : Option Addr) (cS : Nat), Hid (Blk wx wq.heap.size 32 #[.slice AS x.slots.length cS, .slice Bs x.words.length ds]) ∧ Hid (wx.ownsRow wq.heap.size 3 1 (.slice AS x.slots.length cS) x.slots.length (enc ic (x.slots.map (turnI h.nodes.length k)))) ∧ Hid (Below wq.heap.size wq wx))
          case first =>
            go_wp2_with fail
            go_loopw [14] (fun i wr => ∃ (q : Nat) (vS : Value), q ≤ x.slots.length ∧ i = .int .i64 q ∧ Hid (Blk wr wq.heap.size 32 #[vS, .slice Bs x.words.length ds]) ∧
                Hid (wr.ownsRow wq.heap.size 3 1 vS q (enc ic ((x.slots.take q).map (turnI h.nodes.length k)))) ∧ Hid (Below wq.heap.size wq wr)) (fun i _ => x.slots.length - (intOf i).toNat)
            case atStart => exact ⟨0, .slice none 0 0, Nat.zero_le _, rfl, HNY, Lib.hid (own_nil _ _ _ _), Lib.hid (below_1 _ _)⟩
            case round =>
              obtain ⟨q, vS, hq, rfl, HY, HO, HBi⟩ := hrel
              have y0' := HY.out.cell 0
              simp only [List.getElem?_toArray, List.getElem?_cons_zero, List.getElem?_cons_succ] at y0'
              have zy := HY.out.lt
              have e1 := (HBi.out.cell (p := ⟨w.heap.size, 1, none⟩) zpq).trans b1
              have e2 := (HBi.out.cell z2).trans HD2.out
              have z1 := HBi.out.size
              by_cases hql : q < x.slots.length
              · obtain ⟨AS, cS, rfl, hcS⟩ := own_form HO.out
                obtain ⟨ad, rfl, d1'⟩ := (HI1.out.below HBi.out).at_ q hql
                have HTs := Lib.hid (List.take_succ_eq_append_getElem hql)
                have hv := HXS.out x.slots[q] (List.getElem_mem hql)
                generalize x.slots[q] = v at d1' HTs hv
                obtain ⟨hv0, hv1⟩ := hv
                have hz4 := cell_lt d1'
                have HTO := Lib.hid (fun (W' : World) (hl : Like wr W') => to_any v h.nodes.length k (w4.heap.size + 1) w4.heap.size W' (Blk.like ((HK5.out.below HBr.out (by omega)).below HBi.out (by omega)) hl) (Blk.like ((HN5.out.below HBr.out (by omega)).below HBi.out (by omega)) hl) hnp (by omega) hkn hv0 hv1)
                have HNS := Lib.hid (own_blk_ne HO.out HY.out (by decide))
                have HNB := Lib.hid (show ∀ b, (Value.slice AS q cS).ownBlock = some b → b < wq.heap.size → False from fun b e hb => by have := (own_block HO.out b e).1; omega)
                go_wp2
                go_region_law (first
                  | ((try go_simp)
                     go_at_call 14
                     refine (HTO.out _ ?_).mono ?_
                     (first | exact like_self _ | exact like_drew (like_self _) | exact like_drew (like_drew (like_self _)))
                     rintro e w3' ⟨rfl, rfl⟩)
                  | (refine step_append_any _ rfl _ _ _ (by rfl) wq.heap.size 3 i0 _ 1 8 Tryd.underlying22 hi0 hz01 hz02 hz03 rfl (by omega) (.slice AS q cS) q _ (by rfl) (own_ahead HO.out _ (by (first | exact like_self _ | exact like_drew (like_self _) | exact like_drew (like_drew (like_self _))))) _ 1 1 _ (by rfl) (Reads.new _ _ rfl) (by simp [Value.oneCell']) (fun e => by cases e) (by simp only [maxLen]; omega) (by omega) (by simp; omega) ?_; intro v5 w5 hown5 hg5 hat5; obtain ⟨A5, cap5, rfl, hc5⟩ := own_form hown5; have hY5 := grow_keep HY.out _ (by (first | exact like_self _ | exact like_drew (like_self _) | exact like_drew (like_drew (like_self _)))) hg5 HNS.out; have hM5 := grow_mod (S := fun _ => False) (Mod.of_below HBi.out) _ (by (first | exact like_self _ | exact like_drew (like_self _) | exact like_drew (like_drew (like_self _)))) hg5 HNB.out; have r1 := hY5.cell 0; have r2 := hY5.frozen 0; have r3 := hY5.lt; simp only [List.getElem?_toArray, List.getElem?_cons_zero, List.getElem?_cons_succ] at r1; have HY5 := Lib.hid hY5; have HM5 := Lib.hid hM5; have HO5 := Lib.hid hown5; have HA5 := Lib.hid hat5; clear hY5 hM5 hown5 hg5 hat5)
                  | (refine step_append_any _ rfl _ _ _ (by rfl) wq.heap.size 3 i0 _ 1 8 Tryd.underlying22 hi0 hz01 hz02 hz03 rfl (by omega) (.slice AS q cS) q _ (by rfl) (own_ahead HO.out _ (by (first | exact like_self _ | exact like_drew (like_self _) | exact like_drew (like_drew (like_self _))))) _ 1 1 _ (by rfl) (reads_drew (Reads.new _ _ rfl)) (by simp [Value.oneCell']) (fun e => by cases e) (by simp only [maxLen]; omega) (by omega) (by simp; omega) ?_; intro v5 w5 hown5 hg5 hat5; obtain ⟨A5, cap5, rfl, hc5⟩ := own_form hown5; have hY5 := grow_keep HY.out _ (by (first | exact like_self _ | exact like_drew (like_self _) | exact like_drew (like_drew (like_self _)))) hg5 HNS.out; have hM5 := grow_mod (S := fun _ => False) (Mod.of_below HBi.out) _ (by (first | exact like_self _ | exact like_drew (like_self _) | exact like_drew (like_drew (like_self _)))) hg5 HNB.out; have r1 := hY5.cell 0; have r2 := hY5.frozen 0; have r3 := hY5.lt; simp only [List.getElem?_toArray, List.getElem?_cons_zero, List.getElem?_cons_succ] at r1; have HY5 := Lib.hid hY5; have HM5 := Lib.hid hM5; have HO5 := Lib.hid hown5; have HA5 := Lib.hid hat5; clear hY5 hM5 hown5 hg5 hat5))
                all_goals
                  go_wp2
                  go_roundw
                  case rel =>
                    have hv5 : (Value.slice A5 (q + 1) cap5).ownBlock ≠ some wq.heap.size := by
                      rcases HA5.out with e | e
                      · rw [e]; exact HNS.out
                      · rw [e]; intro e; injection e with e; simp at e; omega
                    have hbs : Below wq.heap.size wq (w5.setCell ⟨wq.heap.size, 0, none⟩ (.slice A5 (q + 1) cap5)) := (HM5.out.below (fun _ _ h => h)).setCell (by simp) _
                    have hX : Blk (w5.setCell ⟨wq.heap.size, 0, none⟩ (.slice A5 (q + 1) cap5)) wq.heap.size 32 #[.slice A5 (q + 1) cap5, .slice Bs x.words.length ds] := HY5.out.set_ 0 _
                    have hO : (w5.setCell ⟨wq.heap.size, 0, none⟩ (.slice A5 (q + 1) cap5)).ownsRow wq.heap.size 3 1 (.slice A5 (q + 1) cap5) (q + 1) (enc ic ((x.slots.take (q + 1)).map (turnI h.nodes.length k))) := by
                      rw [HTs.out, List.map_append, enc_append]
                      exact own_far HO5.out hv5 _
                    first
                      | exact ⟨q + 1, .slice A5 (q + 1) cap5, by omega, by go_num, Lib.hid hX, Lib.hid hO, Lib.hid hbs⟩
                      | (rw [List.map_take] at hO
                         exact ⟨q + 1, .slice A5 (q + 1) cap5, by omega, by omega, Lib.hid hX, Lib.hid hO, Lib.hid hbs⟩)
                      | (rw [List.map_take] at hO
                         exact ⟨q + 1, by omega, by omega, .slice A5 (q + 1) cap5, Lib.hid hX, Lib.hid hO, Lib.hid hbs⟩)
                  case measure => simp [intOf]; omega
              · go_wp2_with fail
                go_meet
                have hql' : q = x.slots.length := by omega
                subst hql'
                obtain ⟨AS, cS, rfl, hcS⟩ := own_form HO.out
                rw [List.take_length] at HO
                exact ⟨AS, cS, HY, HO, HBi⟩
          case rest =>
            obtain ⟨AS, cS, HY, HO, HBi⟩ := hcut
            have hbi := HBi.out
            have z1 := hbi.size
            have HXc := Lib.hid (HXr.out.below hbi HXr.out.lt)
            have HMc := Lib.hid (HMr.out.below hbi HMr.out.lt)
            have xc := HXc.out.cell 1
            have yc0 := HY.out.cell 0
            have yc1 := HY.out.cell 1
            simp only [List.getElem?_toArray, List.getElem?_cons_zero, List.getElem?_cons_succ] at xc yc0 yc1
            have nc' := (hbi.cell (p := ⟨w4.heap.size, 0, none⟩) zNq).trans nc
            have kc' := (hbi.cell (p := ⟨w4.heap.size + 1, 0, none⟩) zKq).trans kc
            obtain ⟨q, hq⟩ : ∃ q, (j + k) % h.nodes.length = q := ⟨_, rfl⟩
            have hqn : q < h.nodes.length := by rw [← hq]; exact Nat.mod_lt _ hnp
            have hqi : ((j : Int) + (k : Int)) % (h.nodes.length : Int) = (q : Int) := by
              have := Int.natCast_emod (j + k) h.nodes.length
              rw [Int.natCast_add] at this
              rw [← hq]; exact this.symm
            have hcl : cs.length = h.nodes.length := HFr.out.1
            have mc := pr_get (cs := cs) (j := q) (by omega)
            obtain ⟨mu0, mc0⟩ : ∃ u, wc.cell? ⟨wy.heap.size, q * 2, none⟩ = some u := ⟨_, (HMc.out.cell (q * 2)).trans mc.1⟩
            obtain ⟨mu1, mc1⟩ : ∃ u, wc.cell? ⟨wy.heap.size, q * 2 + 1, none⟩ = some u := ⟨_, (HMc.out.cell (q * 2 + 1)).trans mc.2⟩
            have mf0 := HMc.out.frozen (q * 2)
            have mf1 := HMc.out.frozen (q * 2 + 1)
            have mz := HMc.out.lt
            have hwl : x.words.length ≤ 30 := hx2
            clear mc hcl
            go_wp2_with fail
            go_region
            go_wp2_with fail
            have hm9 : Mod (fun b => b = wy.heap.size) wc ((wc.setCell ⟨wy.heap.size, q * 2, none⟩ (.slice AS x.slots.length cS)).setCell ⟨wy.heap.size, q * 2 + 1, none⟩ (.slice Bs x.words.length ds)).drew :=
              Mod.like (mod_set' (S := fun b => b = wy.heap.size) (mod_set' (S := fun b => b = wy.heap.size) (Mod.refl _ _) rfl _) rfl _) (like_drew (like_self _))
            go_roundg (h.nodes.length - (j + 1))
            case measure => omega
            case rel =>
              have hset := pr_set cs q (.slice AS x.slots.length cS, .slice Bs x.words.length ds) (by rw [HFr.out.1]; exact hqn)
              have hF1 := HFr.out.step (Mod.of_below (S := fun _ => False) hbi) (fun _ _ h => h.elim) (fun k h => .inl h)
              have hF2 := hF1.step hm9 (fun b _ e => .inl (.inr e)) (fun k h => .inl h)
              have hcold : CInts wc (fun b => b = w4.heap.size + 1 + 1 ∨ b = wy.heap.size) 0 AS (x.slots.map (turnI h.nodes.length k)) := CInts.of_own HO.out (by omega) (by omega) (fun b hb => by
                have := own_block HO.out b hb
                rintro (e | e) <;> omega)
              have hB9 := (HI2c.out.step (Mod.of_below (S := fun _ => False) hbi) (fun _ _ h => h.elim) (fun k h => .inl h)).step hm9 (fun b _ e => .inl (.inr e)) (fun k h => .inl h)
              have hF3 := HPUT.out _ _ hF2 AS Bs cS ds x.slots.length x.words.length (by simp [turnNd]) rfl (hcold.step hm9 (fun b _ e => .inl (.inr e)) (fun k h => .inl h)) hB9
              rw [hq] at hF3
              refine ⟨j + 1, cs.set q (.slice AS x.slots.length cS, .slice Bs x.words.length ds), by omega, rfl, by go_num, ?_, ?_, ?_, Lib.hid hF3, ?_⟩
              · show Blk _ _ _ _
                exact ((HXc.out.far (by simp; omega) _).far (by simp; omega) _).drewN 1
              · show Blk _ _ _ _
                rw [← hset]
                exact ((HMc.out.set_ _ _).set_ _ _).drewN 1
              · show CInts _ _ _ _ _
                exact (HRr.out.step (Mod.of_below (S := fun _ => False) hbi) (fun _ _ h => h.elim) (fun k h => .inl h)).step hm9 (fun b _ e => .inl (.inr e)) (fun k h => .inl h)
              · show Below _ _ _
                exact (((HBr.out.trans (hbi.mono (by omega))).setCell (by simp; omega) _).setCell (by simp; omega) _).drew
        · have hjn : j = h.nodes.length := by omega
          subst hjn
          go_wp2_with fail
          go_meet
          exact ⟨cs, HXr, HMr, HRr, HFr, HBr⟩
    case rest =>
      obtain ⟨cs, HX2, HM2, HR2, HF2, HB2⟩ := hcut
      obtain ⟨wv, hwv⟩ : ∃ wv, wv = wc := ⟨_, rfl⟩
      subst hwv
      have HROW := Lib.hid (filled_row HM2.out HF2.out rfl hnp (by omega))
      have HR3 := Lib.hid (show CInts wv (fun q => q = w4.heap.size + 1 + 1 ∨ (Value.slice (some (⟨wy.heap.size, 0, none⟩ : Addr)) h.nodes.length h.nodes.length).ownBlock = some q) 0 AR (h.roots.map (turnI h.nodes.length k)) from
        HR2.out.step (Mod.refl (fun _ => False) _) (fun _ _ h => h.elim) (by
          rintro b (e | e)
          · exact .inl (.inl e)
          · injection e with e; exact .inl (.inr e.symm)))
      obtain ⟨i1, hi1, hz11, hz12, hz13⟩ := info_parts1 nodeInfo
      go_upto_block 6 with fail
      go_cut [] (fun wx => ∃ (AN : Option Addr) (cN : Nat) (xs : List Value), Hid (Blk wx (w4.heap.size + 1 + 1) 25 #[.slice AR h.roots.length cR, .slice AN (h.nodes.length + m) cN]) ∧ Hid (CInts wx (fun q => q = w4.heap.size + 1 + 1 ∨ (Value.slice AN (h.nodes.length + m) cN).ownBlock = some q) 0 AR (h.roots.map (turnI h.nodes.length k))) ∧
          Hid (NdRow wx (fun q => q = w4.heap.size + 1 + 1 ∨ (Value.slice AN (h.nodes.length + m) cN).ownBlock = some q) 0 (.slice AN (h.nodes.length + m) cN) xs (turned h k m).nodes) ∧ Hid (Below (w4.heap.size + 1 + 1) W5 wx))
      case first =>
        go_wp2_with fail
        go_loopw [15] (fun i wr => ∃ (j : Nat) (vN : Value) (xs : List Value), j ≤ m ∧ i = .int .i64 j ∧ Hid (Blk wr (w4.heap.size + 1 + 1) 25 #[.slice AR h.roots.length cR, vN]) ∧ Hid (CInts wr (fun q => q = w4.heap.size + 1 + 1 ∨ vN.ownBlock = some q) 0 AR (h.roots.map (turnI h.nodes.length k))) ∧
            Hid (NdRow wr (fun q => q = w4.heap.size + 1 + 1 ∨ vN.ownBlock = some q) 0 vN xs ((List.range h.nodes.length).map (backNd h k) ++ (List.range j).map (moreNd h.nodes.length))) ∧ Hid (Below (w4.heap.size + 1 + 1) W5 wr) ∧ Hid (∀ q, vN.ownBlock = some q → w4.heap.size + 1 + 1 < q)) (fun i _ => m - (intOf i).toNat)
        case atStart =>
          refine ⟨0, .slice (some ⟨wy.heap.size, 0, none⟩) h.nodes.length h.nodes.length, enc pr cs, Nat.zero_le _, rfl, HX2, HR3, ?_, HB2, ?_⟩
          · show NdRow _ _ _ _ _ _
            simpa using HROW.out
          · show ∀ q, _ → _
            intro q e
            have e' : wy.heap.size = q := by simpa [Value.ownBlock] using e
            omega
        case round =>
          obtain ⟨j, vN, xs, hj, rfl, HXl, HRl, HNl, HBl, HQl⟩ := hrel
          have hlen : ((List.range h.nodes.length).map (backNd h k) ++ (List.range j).map (moreNd h.nodes.length)).length = h.nodes.length + j := by simp
          have hown := HNl.out.own
          rw [hlen] at hown
          obtain ⟨AN, cN, rfl, hcN⟩ := own_form hown
          by_cases hlt : j < m
          · have HOWN := Lib.hid (fun (W' : World) (hb : Below wr.heap.size wr W') => own_below hown hb)
            have HNX := Lib.hid (own_blk_ne hown HXl.out (by decide))
            have zX := HXl.out.lt
            have xl := HXl.out.cell 1
            have nl := (HN5.out.below HBl.out (by omega)).cell 0
            simp only [List.getElem?_toArray, List.getElem?_cons_zero, List.getElem?_cons_succ] at xl nl
            obtain ⟨r, hr⟩ : ∃ r, j % h.nodes.length = r := ⟨_, rfl⟩
            have hrn : r < h.nodes.length := by rw [← hr]; exact Nat.mod_lt _ hnp
            have hri : (j : Int) % (h.nodes.length : Int) = (r : Int) := by rw [← hr]; exact (Int.natCast_emod _ _).symm
            have hrt : (j : Int).tmod (h.nodes.length : Int) = (r : Int) := by rw [Int.tmod_eq_emod_of_nonneg (by omega)]; exact hri
            have hwr : IntKind.i64.wrap ((r : Int) + 1) = (r : Int) + 1 := IntWalk.i64_in _ (by omega)
            have hzb2 : ((h.nodes.length : Int) == 0) = false := beq_eq_false_iff_ne.mpr (by omega)
            have hzb3 : ((h.nodes.length : Int) == -1) = false := beq_eq_false_iff_ne.mpr (by omega)
            have hne : ¬ h.nodes = [] := fun e => by rw [e] at hnp; simp at hnp
            have zl := HBl.out.size
            have zNl : w4.heap.size < wr.heap.size := by omega
            have zl1 : w4.heap.size + 1 + 1 < wr.heap.size + 1 := by omega
            have zl2 : w4.heap.size + 1 + 1 < wr.heap.size + 1 + 1 := by omega
            have zl3 : w4.heap.size + 1 + 1 < wr.heap.size + 1 + 1 + 1 := by omega
            have zn1 : w4.heap.size < wr.heap.size + 1 := by omega
            have zn2 : w4.heap.size < wr.heap.size + 1 + 1 := by omega
            have zn3 : w4.heap.size < wr.heap.size + 1 + 1 + 1 := by omega
            clear hown
            go_wp2
            go_region_law (first
              | (refine more_arm (w2 := ((wr.alloc (.cells #[.int .i64 ((r : Int) + 1)] 3)).alloc (.cells #[.int .i64 (j : Int)] 3))) (pa := wr.heap.size) (pb := wr.heap.size + 1) (pc := wr.heap.size + 1 + 1) HNl.out hlen (by omega) HXl.out HNX.out (below_then (below_1 _ _) (below_1 _ _)) ((Blk.new wr 3 #[.int .i64 ((r : Int) + 1)]).alloc _) (blk_second wr _ _ _) (by omega) (by omega) (by simp) rfl _ _ (by rfl) (by rfl) (by rfl) ?_; intro A5 cap5 w5 HMS HX6 HA5 r1 r2 r3 HZ)
              | (refine more_arm (w2 := ((wr.alloc (.cells #[.int .i64 (j : Int)] 3)).alloc (.cells #[.int .i64 ((r : Int) + 1)] 3))) (pa := wr.heap.size + 1) (pb := wr.heap.size) (pc := wr.heap.size + 1 + 1) HNl.out hlen (by omega) HXl.out HNX.out (below_then (below_1 _ _) (below_1 _ _)) (blk_second wr _ _ _) ((Blk.new wr 3 #[.int .i64 (j : Int)]).alloc _) (by omega) (by omega) (by simp) rfl _ _ (by rfl) (by rfl) (by rfl) ?_; intro A5 cap5 w5 HMS HX6 HA5 r1 r2 r3 HZ))
            all_goals
              go_wp2
              go_roundw
              case rel =>
                obtain ⟨hN6, hM6⟩ := HMS.out
                have hr1 : ((List.range h.nodes.length).map (backNd h k) ++ (List.range (j + 1)).map (moreNd h.nodes.length)) = ((List.range h.nodes.length).map (backNd h k) ++ (List.range j).map (moreNd h.nodes.length)) ++ [⟨[(r : Int) + 1], [(j : Int)]⟩] := by
                  rw [List.range_succ, List.map_append, List.append_assoc]; simp [moreNd, hr, hri]
                have hX7 : Blk (w5.setCell ⟨w4.heap.size + 1 + 1, 1, none⟩ (.slice A5 (h.nodes.length + j + 1) cap5)) (w4.heap.size + 1 + 1) 25 #[.slice AR h.roots.length cR, .slice A5 (h.nodes.length + j + 1) cap5] := HX6.out.set_ 1 _
                have hB7 : Below (w4.heap.size + 1 + 1) W5 (w5.setCell ⟨w4.heap.size + 1 + 1, 1, none⟩ (.slice A5 (h.nodes.length + j + 1) cap5)) :=
                  HBl.out.trans ⟨hM6.os, hM6.tape, hM6.output, hM6.size, fun i hi => hM6.block i (by omega) (more_low HQl.out i hi)⟩
                have hR7 := HRl.out.step hM6 (fun b _ e => .inl e) (more_hot HA5.out)
                have hQ7 := more_own HQl.out HA5.out zX
                rw [← hr1] at hN6
                first
                  | exact ⟨j + 1, .slice A5 (h.nodes.length + j + 1) cap5, _, by omega, by go_num, Lib.hid hX7, Lib.hid hR7, Lib.hid hN6, Lib.hid hB7, Lib.hid hQ7⟩
                  | exact ⟨j + 1, by omega, by omega, .slice A5 (h.nodes.length + j + 1) cap5, Lib.hid hX7, Lib.hid hR7, ⟨_, Lib.hid hN6⟩, Lib.hid hB7, Lib.hid hQ7⟩
              case measure => simp [intOf]; omega
          · have hjm : j = m := by omega
            subst hjm
            go_wp2_with fail
            go_meet
            exact ⟨AN, cN, xs, HXl, HRl, HNl, HBl⟩
      case rest =>
        obtain ⟨AN, cN, xs, HX3, HR3c, HN3, HB3⟩ := hcut
        have hBw : Below w4.heap.size w4 wc := HBS.out.trans (HB3.out.mono (by omega))
        obtain ⟨x, hx⟩ : ∃ x, x = turned h k m := ⟨_, rfl⟩
        have hl1 : x.roots.length = h.roots.length := by rw [hx]; simp [turned]
        have hl2 : x.nodes.length = h.nodes.length + m := by rw [hx]; simp [turned]
        have hrx : right x = true := by rw [hx]; exact turned_right HR8.out hkn hm20 h60
        have hcan : canon x = canon h := by simp only [canon, hrx, HR8.out, if_true]; rw [hx]; exact turned_number HR8.out hkn
        have hsz : size x = size h := by simp only [size, hrx, HR8.out, if_true, hcan]
        have hTwo : Two w wc w.heap.size (w4.heap.size + 1 + 1) A3 D3 AR AN a3 d3 cR cN h x :=
          { b1 := HG4.out.below hBw HG4.out.lt
            b2 := by rw [hl1, hl2]; exact HX3.out
            low := HB4.out.trans (hBw.mono HB4.out.size)
            tab := HT.out.below (HB4.out.trans (hBw.mono HB4.out.size))
            g1 := HA4.out.below hBw
            g2 := HD4.out.below hBw
            h1 := by rw [hx]; exact HR3c.out.1
            h2 := by rw [hx]; exact HN3.out.nodes (Mod.refl (fun _ => False) _) (fun _ _ h => h.elim) (by rw [← hx, hl2]; omega) }
        have H2d := hTwo.like (like_drew (like_self _))
        obtain ⟨x1, x2, x3, x4⟩ := hTwo.cells
        have z1 := hTwo.b1.lt
        have z2 := hTwo.b2.lt
        have HSM := Lib.hid (show same h x = true by simp [same, hrx, HR8.out, hcan])
        obtain ⟨sz, hZ⟩ : ∃ sz, size h = sz := ⟨_, rfl⟩
        obtain ⟨st, hS⟩ : ∃ st, grText (canon h) = st := ⟨_, rfl⟩
        have Z2 := Lib.hid (hsz.trans hZ)
        have Z1 := Lib.hid hZ
        have G3 := Lib.hid hS
        have G4 := Lib.hid (show grText (canon x) = st by rw [hcan]; exact hS)
        have HRX := Lib.hid hrx
        have e1 : ((sz : Int) == (sz : Int)) = true := by simp
        have e2 : (st == st) = true := by simp
        clear hl1 hl2 hx hcan hrx hsz hZ hS HX3 HR3c HN3 HB3 hTwo HX2 HM2 HR2 HF2 HB2 HROW HR3 hBw y0 y1 n0 xf1 xc1
        go_wp2_with fail
        go_region_held3 (fun W => W.cell? ⟨w.heap.size, 0, none⟩ = some (.slice A3 h.roots.length a3) ∧ W.cell? ⟨w.heap.size, 1, none⟩ = some (.slice D3 h.nodes.length d3) ∧ W.cell? ⟨w4.heap.size + 1 + 1, 0, none⟩ = some (.slice AR x.roots.length cR) ∧ W.cell? ⟨w4.heap.size + 1 + 1, 1, none⟩ = some (.slice AN x.nodes.length cN) ∧
            Two w W w.heap.size (w4.heap.size + 1 + 1) A3 D3 AR AN a3 d3 cR cN h x)
          (first
            | exact ⟨hc.1, hc.2.1, hc.2.2.1, hc.2.2.2, hD⟩
            | exact ⟨x1, x2, x3, x4, H2d⟩
            | go_keep)
          (first
            | (go_at_call 16; revert hV6; intro hV6; refine (two_text _ _ (canon x) _ _ (canon_right2 HRX.out) hV6.1 hV6.2 hD).mono ?_; rw [G4.out]; rintro e w7 ⟨rfl, hc, hD⟩)
            | (go_at_call 17; revert hT5; intro hT5; refine (two_canon _ _ x _ _ HRX.out hD.h1 hD.h2 hD).mono ?_; rintro e w6 ⟨X6, m6, Y6, n6, rfl, hV6, hc, hD⟩)
            | (go_at_call 16; revert hV5; intro hV5; refine (two_text _ _ (canon h) _ _ (canon_right2 HR8.out) hV5.1 hV5.2 hD).mono ?_; rw [G3.out]; rintro e w5 ⟨rfl, hc, hD⟩; have hT5 := Lib.hid hD)
            | (go_at_call 17; refine (two_canon _ _ h _ _ HR8.out hD.g1 hD.g2 hD).mono ?_; rintro e w9 ⟨X5, m5, Y5, n5, rfl, hV5, hc, hD⟩)
            | (go_at_call 15; revert hZ1; intro hZ1; refine (two_size _ _ x _ _ hD.h1 hD.h2 hD).mono ?_; rw [Z2.out]; rintro e w8 ⟨rfl, hc, hD⟩)
            | (go_at_call 15; refine (two_size _ _ h _ _ hD.g1 hD.g2 hD).mono ?_; rw [Z1.out]; rintro e w8 ⟨rfl, hc, hD⟩; have hZ1 := Lib.hid hD)
            | (go_at_call 13; refine (two_same H2d).mono ?_; rw [HSM.out]; rintro e w8 ⟨rfl, hc, hD⟩))
        go_wp2_with fail
        go_ret
        exact ⟨rfl, hD.low⟩

end Go.Proofs.YtbelbhdhcgpcpaaDoor.Gr
