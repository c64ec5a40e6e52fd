/- flittinglaw16.GraphGrows: its walk. -/
import Derived.Test.YtbelbhdhcgpcpaaDoorGrReach
import Derived.Test.YtbelbhdhcgpcpaaDoorGrGrowsP
import Derived.Test.YtbelbhdhcgpcpaaDoorGrTwo
import Derived.Test.YtbelbhdhcgpcpaaDoorGrMore
import Derived.Test.YtbelbhdhcgpcpaaDoorGrRefCanonW
namespace Go.Proofs.YtbelbhdhcgpcpaaDoor.Gr
open Go.RowKit Go.Proofs.YtbelbhdhcgpcpaaDoor.Base Go.Proofs.YtbelbhdhcgpcpaaDoor.Str
set_option linter.unusedVariables false
set_option linter.unusedSimpArgs false

set_option maxRecDepth 100000 in
set_option maxHeartbeats 8000000 in
theorem grows_walk (A D : Option Addr) (g : Gr) (a d : Nat) (B C : Option Addr) (x : Nd) (b c : Nat) (root : Int) (w : World) (ht : Tab w) (hA : Ints w A g.roots) (hD : Nodes w D g.nodes) (hB : Ints w B x.slots) (hC : Ints w C x.words) :
    Calls Tryd.prog 5 #[.agg #[.slice A g.roots.length a, .slice D g.nodes.length d], .agg #[.slice B x.slots.length b, .slice C x.words.length c], .int .i64 root] w fun e w' => e = .returned (.bool true) ∧ Below w.heap.size w w' := by
  have HA := Lib.hid hA
  have HD := Lib.hid hD
  have HC := Lib.hid hC
  have HT := Lib.hid ht
  have HG := Lib.hid ((Blk.new w 25 #[.slice A g.roots.length a, .slice D g.nodes.length d]).alloc (.cells #[.slice B x.slots.length b, .slice C x.words.length c] 32))
  have HX := Lib.hid (blk_second w (.cells #[.slice A g.roots.length a, .slice D g.nodes.length d] 25) 32 #[.slice B x.slots.length b, .slice C x.words.length c])
  have HB := Lib.hid (box_zero2 w #[.slice A g.roots.length a, .slice D g.nodes.length d] 25 (.cells #[.slice B x.slots.length b, .slice C x.words.length c] 32))
  clear hA hD ht hB hC
  go_enter Tryd.func5, Tryd.ntmps5
  go_wp2_with fail
  refine (light_any A D g a d _ (HA.out.below HB.out) (HD.out.below HB.out)).mono ?_
  rintro e w1 ⟨⟨bb, rfl, hb⟩, hb1⟩
  have HB1 := Lib.hid (below_then HB.out hb1)
  have HG1 := Lib.hid (HG.out.below hb1 HG.out.lt)
  have HX1 := Lib.hid (HX.out.below hb1 HX.out.lt)
  have HS := Lib.hid hb
  have K1 := Lib.hid (alive_any w1 (HT.out.below HB1.out))
  have q0 := HX1.out.cell 0
  have q1 := HX1.out.cell 1
  simp only [List.getElem?_toArray, List.getElem?_cons_zero, List.getElem?_cons_succ] at q0 q1
  clear hb hb1 HG HX
  have fin : ∀ w2 : World, Below w1.heap.size w1 w2 → Below w.heap.size w w2 := fun w2 h => below_then HB1.out h
  have FIN := Lib.hid fin
  clear fin
  cases bb
  · go_wp2_with fail
    refine K1.out.mono ?_
    rintro e w2 ⟨rfl, hb2⟩
    have hf := Lib.hid (FIN.out _ hb2)
    clear hb2
    go_wp2
    go_ret
    exact ⟨rfl, hf.out⟩
  by_cases hs : x.slots.length > 15
  · have d0 : decide ((x.slots.length : Int) > 15) = true := decide_eq_true (by omega)
    go_wp2_with fail
    refine K1.out.mono ?_
    rintro e w2 ⟨rfl, hb2⟩
    have hf := Lib.hid (FIN.out _ hb2)
    clear hb2
    go_wp2
    go_ret
    exact ⟨rfl, hf.out⟩
  have d0 : decide ((x.slots.length : Int) > 15) = false := decide_eq_false (by omega)
  by_cases hw : x.words.length > 30
  · have d1 : decide ((x.words.length : Int) > 30) = true := decide_eq_true (by omega)
    go_wp2_with fail
    refine K1.out.mono ?_
    rintro e w2 ⟨rfl, hb2⟩
    have hf := Lib.hid (FIN.out _ hb2)
    clear hb2
    go_wp2
    go_ret
    exact ⟨rfl, hf.out⟩
  have d1 : decide ((x.words.length : Int) > 30) = false := decide_eq_false (by omega)
  have hs15 : x.slots.length ≤ 15 := by omega
  have hw30 : x.words.length ≤ 30 := by omega
  clear hs hw
  go_wp2_with fail
  refine K1.out.mono ?_
  rintro e w2 ⟨rfl, hb2⟩
  have HB2 := Lib.hid (below_then HB1.out hb2)
  have HG2 := Lib.hid (HG1.out.below hb2 HG1.out.lt)
  have HX2 := Lib.hid (HX1.out.below hb2 HX1.out.lt)
  have c0 := HG2.out.cell 0
  have c1 := HG2.out.cell 1
  simp only [List.getElem?_toArray, List.getElem?_cons_zero, List.getElem?_cons_succ] at c0 c1
  clear hb2 q0 q1
  go_wp2_with fail
  refine (eight_any A D g a d w2 (HS.out trivial) (HA.out.below HB2.out) (HD.out.below HB2.out)).mono ?_
  rintro e w3 ⟨v, rfl, hV, hb3⟩
  have HR8 := Lib.hid (eight_right (HS.out trivial))
  have h60 : (eight g).nodes.length ≤ 60 := by have h1 := (HS.out trivial).1; show (g.nodes.map _).length ≤ 60; rw [List.length_map]; exact h1
  have HB3 := Lib.hid (below_then HB2.out hb3)
  have HG3 := Lib.hid (HG2.out.below hb3 HG2.out.lt)
  have HX3 := Lib.hid (HX2.out.below hb3 HX2.out.lt)
  have HV := Lib.hid hV
  have hzg := HG2.out.lt
  generalize eight g = h at hV HV HR8 h60
  obtain ⟨A3, a3, D3, d3, rfl, -, -⟩ := hV.now
  have HV3 := Lib.hid (show GrV ((w3.setCell ⟨w.heap.size, 0, none⟩ (.slice A3 h.roots.length a3)).setCell ⟨w.heap.size, 1, none⟩ (.slice D3 h.nodes.length d3)) (.agg #[.slice A3 h.roots.length a3, .slice D3 h.nodes.length d3]) h from
    HV.out (fun b => b = w.heap.size) _ (mod_set' (S := fun b => b = w.heap.size) (mod_set' (S := fun b => b = w.heap.size) (Mod.refl _ _) rfl _) rfl _) (by rintro b rfl; exact hzg))
  have HB4 := Lib.hid (show Below w.heap.size w ((w3.setCell ⟨w.heap.size, 0, none⟩ (.slice A3 h.roots.length a3)).setCell ⟨w.heap.size, 1, none⟩ (.slice D3 h.nodes.length d3)) from (HB3.out.setCell (by simp) _).setCell (by simp) _)
  have HG4 := Lib.hid (show Blk ((w3.setCell ⟨w.heap.size, 0, none⟩ (.slice A3 h.roots.length a3)).setCell ⟨w.heap.size, 1, none⟩ (.slice D3 h.nodes.length d3)) w.heap.size 25 #[.slice A3 h.roots.length a3, .slice D3 h.nodes.length d3] from
    (HG3.out.set_ 0 (.slice A3 h.roots.length a3)).set_ 1 (.slice D3 h.nodes.length d3))
  have HX4 := Lib.hid (show Blk ((w3.setCell ⟨w.heap.size, 0, none⟩ (.slice A3 h.roots.length a3)).setCell ⟨w.heap.size, 1, none⟩ (.slice D3 h.nodes.length d3)) (w.heap.size + 1) 32 #[.slice B x.slots.length b, .slice C x.words.length c] from
    (HX3.out.far (by simp) _).far (by simp) _)
  have x0 := HG3.out.cell 0
  have x1 := HG3.out.cell 1
  have f0 := HG3.out.frozen 0
  have f1 := HG3.out.frozen 1
  have x2 := HG3.out.lt
  simp only [List.getElem?_toArray, List.getElem?_cons_zero, List.getElem?_cons_succ] at x0 x1
  clear c0 c1 hb3 hV HV
  go_upto_region 4 with fail
  generalize (w3.setCell ⟨w.heap.size, 0, none⟩ (.slice A3 h.roots.length a3)).setCell ⟨w.heap.size, 1, none⟩ (.slice D3 h.nodes.length d3) = w4 at HV3 HB4 HG4 HX4 ⊢
  obtain ⟨_, _, _, _, e4, hA4, hD4⟩ := HV3.out
  injection e4 with e4
  obtain ⟨e5, e6⟩ : (Value.slice A3 h.roots.length a3 = Value.slice _ h.roots.length _) ∧ (Value.slice D3 h.nodes.length d3 = Value.slice _ h.nodes.length _) := by simpa using e4
  injection e5 with e5 _ e5'
  injection e6 with e6 _ e6'
  subst e5 e5' e6 e6'
  clear e4 x0 x1 f0 f1 x2 HG3 HB3 HG2 HB2 HG1 HX3 HX2 HX1 K1 FIN
  have HA4 := Lib.hid hA4
  have HD4 := Lib.hid hD4
  clear hA4 hD4
  have y1 := HG4.out.cell 1
  have z1 := HX4.out.cell 1
  have y2 := HG4.out.lt
  have z2 := HX4.out.lt
  have HY4 := Lib.hid (Blk.new w4 32 #[.slice none 0 0, .slice none 0 0])
  simp only [List.getElem?_toArray, List.getElem?_cons_zero, List.getElem?_cons_succ] at y1 z1
  obtain ⟨i0, hi0, hz01, hz02, hz03⟩ := info_parts1 intInfo
  obtain ⟨i1, hi1, hz11, hz12, hz13⟩ := info_parts1 nodeInfo
  go_upto_block 0 with fail
  go_cut [] (fun wx => ∃ (AW : Option Addr) (cW : Nat), Hid (Blk wx w4.heap.size 32 #[.slice none 0 0, .slice AW x.words.length cW]) ∧ Hid (wx.ownsRow (w4.heap.size + 1) 3 1 (.slice AW x.words.length cW) x.words.length (enc ic (x.words.map wordI))) ∧ Hid (Below w4.heap.size w4 wx))
  case first =>
    go_wp2_with fail
    go_loopw [9] (fun i wr => ∃ (l : Nat) (vW : Value), l ≤ x.words.length ∧ i = .int .i64 l ∧ Hid (Blk wr w4.heap.size 32 #[.slice none 0 0, vW]) ∧
        Hid (wr.ownsRow (w4.heap.size + 1) 3 1 vW l (enc ic ((x.words.take l).map wordI))) ∧ Hid (Below w4.heap.size w4 wr)) (fun i _ => x.words.length - (intOf i).toNat)
    case atStart =>
      exact ⟨0, .slice none 0 0, Nat.zero_le _, rfl, HY4, Lib.hid (own_nil _ _ _ _), Lib.hid (below_1 _ _)⟩
    case round =>
      obtain ⟨l, vW, hl, rfl, HYw, HW, HBq⟩ := hrel
      have y1' := HYw.out.cell 1
      have y2' := HYw.out.frozen 1
      simp only [List.getElem?_toArray, List.getElem?_cons_zero, List.getElem?_cons_succ] at y1'
      have zy' := HYw.out.lt
      have g1 := (HBq.out.cell (p := ⟨w.heap.size + 1, 1, none⟩) z2).trans z1
      have zw := HBq.out.size
      obtain ⟨AW, cW, rfl, hcW⟩ := own_form HW.out
      have HNW := Lib.hid (own_blk_ne HW.out HYw.out (by decide))
      by_cases hgo : l < x.words.length
      · obtain ⟨ad, rfl, d1'⟩ := ((HC.out.below HB4.out).below HBq.out).at_ l hgo
        have HTs := Lib.hid (List.take_succ_eq_append_getElem hgo)
        generalize x.words[l] = v at d1' HTs
        have hz4 := cell_lt d1'
        have HNV := Lib.hid (show ∀ b, (Value.slice AW l cW).ownBlock = some b → b < w4.heap.size → b = w4.heap.size from fun b e hb => by have := (own_block HW.out b e).1; omega)
        have hbits := bits_word v
        have zX : w.heap.size + 1 < wr.heap.size := by omega
        have zX1 : w.heap.size + 1 < wr.heap.size + 1 := by omega
        go_wp2
        go_region_law (first
          | (refine step_append_any _ rfl _ _ _ (by rfl) (w4.heap.size + 1) 3 i0 _ 1 8 Tryd.underlying22 hi0 hz01 hz02 hz03 rfl (by omega) (.slice AW l cW) l _ (by rfl) (own_ahead HW.out _ (by (first | exact like_self _ | exact like_drew (like_self _) | exact like_drew (like_drew (like_self _))))) _ 1 1 _ (by rfl) (Reads.new _ _ rfl) (by simp [Value.oneCell']) (fun e => by cases e) (by simp only [maxLen]; omega) (by omega) (by simp; omega) ?_; intro v4 w5 hown4 hg4 hat4; obtain ⟨A4, cap4, rfl, hc4⟩ := own_form hown4; have hY4 := grow_keep HYw.out _ (by (first | exact like_self _ | exact like_drew (like_self _) | exact like_drew (like_drew (like_self _)))) hg4 HNW.out; have hM4 := grow_mod (S := fun b => b = w4.heap.size) (Mod.of_below HBq.out) _ (by (first | exact like_self _ | exact like_drew (like_self _) | exact like_drew (like_drew (like_self _)))) hg4 HNV.out; have r1 := hY4.cell 1; have r2 := hY4.frozen 1; have r3 := hY4.lt; simp only [List.getElem?_toArray, List.getElem?_cons_zero, List.getElem?_cons_succ] at r1; have HY5 := Lib.hid hY4; have HM5 := Lib.hid hM4; have HO5 := Lib.hid hown4; have HA5 := Lib.hid hat4; clear hY4 hM4 hown4 hg4 hat4)
          | (refine step_append_any _ rfl _ _ _ (by rfl) (w4.heap.size + 1) 3 i0 _ 1 8 Tryd.underlying22 hi0 hz01 hz02 hz03 rfl (by omega) (.slice AW l cW) l _ (by rfl) (own_ahead HW.out _ (by (first | exact like_self _ | exact like_drew (like_self _) | exact like_drew (like_drew (like_self _))))) _ 1 1 _ (by rfl) (reads_drew (Reads.new _ _ rfl)) (by simp [Value.oneCell']) (fun e => by cases e) (by simp only [maxLen]; omega) (by omega) (by simp; omega) ?_; intro v4 w5 hown4 hg4 hat4; obtain ⟨A4, cap4, rfl, hc4⟩ := own_form hown4; have hY4 := grow_keep HYw.out _ (by (first | exact like_self _ | exact like_drew (like_self _) | exact like_drew (like_drew (like_self _)))) hg4 HNW.out; have hM4 := grow_mod (S := fun b => b = w4.heap.size) (Mod.of_below HBq.out) _ (by (first | exact like_self _ | exact like_drew (like_self _) | exact like_drew (like_drew (like_self _)))) hg4 HNV.out; have r1 := hY4.cell 1; have r2 := hY4.frozen 1; have r3 := hY4.lt; simp only [List.getElem?_toArray, List.getElem?_cons_zero, List.getElem?_cons_succ] at r1; have HY5 := Lib.hid hY4; have HM5 := Lib.hid hM4; have HO5 := Lib.hid hown4; have HA5 := Lib.hid hat4; clear hY4 hM4 hown4 hg4 hat4))
        all_goals
          go_wp2
          go_roundw
          case rel =>
            have hv4 : (Value.slice A4 (l + 1) cap4).ownBlock ≠ some w4.heap.size := by
              rcases HA5.out with h | h
              · rw [h]; exact HNW.out
              · rw [h]; intro e; injection e with e; simp at e; omega
            refine ⟨l + 1, .slice A4 (l + 1) cap4, by omega, by go_num, ?_, ?_, ?_⟩
            · show Blk _ _ _ _
              exact HY5.out.set_ 1 _
            · show World.ownsRow _ _ _ _ _ _ _
              rw [HTs.out, List.map_append, enc_append]
              exact own_far HO5.out hv4 _
            · show Below _ _ _
              exact (mod_set' HM5.out rfl _).below (fun b hb e => by omega)
          case measure => simp [intOf]; omega
      · go_wp2_with fail
        go_meet
        have hll : l = x.words.length := by omega
        subst hll
        rw [List.take_length] at HW
        exact ⟨AW, cW, HYw, HW, HBq⟩
  case rest =>
    obtain ⟨AW, cW, HY, HO, HBc⟩ := hcut
    obtain ⟨w5, hw5⟩ : ∃ w5, w5 = wc := ⟨_, rfl⟩
    subst hw5
    have q0 := (HBc.out.cell (p := ⟨w.heap.size + 1, 0, none⟩) z2).trans (HX4.out.cell 0)
    have q1 := HY.out.frozen 0
    have q2 := HY.out.cell 0
    have q3 := HY.out.lt
    have q4 : w.heap.size + 1 < w5.heap.size := by have := HBc.out.size; omega
    simp only [List.getElem?_toArray, List.getElem?_cons_zero, List.getElem?_cons_succ] at q0 q2
    have hmk := make_ints x.slots.length (by omega)
    go_upto_region 11 with fail
    have hsS : (w5.setCell ⟨w4.heap.size, 0, none⟩ (.slice (some ⟨w5.heap.size, 0, none⟩) x.slots.length x.slots.length)).heap.size = w5.heap.size := by simp [World.setCell]
    have hb6 : Below w4.heap.size w4 ((w5.setCell ⟨w4.heap.size, 0, none⟩ (.slice (some ⟨w5.heap.size, 0, none⟩) x.slots.length x.slots.length)).alloc (.cells (Array.replicate x.slots.length (Value.int .i64 0)) 3)) :=
      (HBc.out.setCell (by simp) _).alloc (by rw [hsS]; exact HBc.out.size) _
    have hY6 : Blk ((w5.setCell ⟨w4.heap.size, 0, none⟩ (.slice (some ⟨w5.heap.size, 0, none⟩) x.slots.length x.slots.length)).alloc (.cells (Array.replicate x.slots.length (Value.int .i64 0)) 3)) w4.heap.size 32 #[.slice (some ⟨w5.heap.size, 0, none⟩) x.slots.length x.slots.length, .slice AW x.words.length cW] :=
      (HY.out.set_ 0 _).alloc _
    have hZ6 : Ints ((w5.setCell ⟨w4.heap.size, 0, none⟩ (.slice (some ⟨w5.heap.size, 0, none⟩) x.slots.length x.slots.length)).alloc (.cells (Array.replicate x.slots.length (Value.int .i64 0)) 3)) (some ⟨w5.heap.size, 0, none⟩) (List.replicate x.slots.length 0) := by
      have h1 := Blk.new (w5.setCell ⟨w4.heap.size, 0, none⟩ (.slice (some ⟨w5.heap.size, 0, none⟩) x.slots.length x.slots.length)) 3 (Array.replicate x.slots.length (Value.int .i64 0))
      rw [hsS] at h1
      refine ints_blk (t := 3) (l := List.replicate x.slots.length 0) ?_ (by simp; omega)
      rw [enc_ic]
      simpa using h1
    have hW6 : Ints ((w5.setCell ⟨w4.heap.size, 0, none⟩ (.slice (some ⟨w5.heap.size, 0, none⟩) x.slots.length x.slots.length)).alloc (.cells (Array.replicate x.slots.length (Value.int .i64 0)) 3)) AW (x.words.map wordI) := by
      have hne := own_blk_ne HO.out HY.out (by decide)
      exact Ints.of_own (own_below (own_far HO.out hne _) (below_1 _ _)) (by omega)
    generalize hw6 : (w5.setCell ⟨w4.heap.size, 0, none⟩ (.slice (some ⟨w5.heap.size, 0, none⟩) x.slots.length x.slots.length)).alloc (.cells (Array.replicate x.slots.length (Value.int .i64 0)) 3) = w6 at hb6 hY6 hZ6 hW6 ⊢
    clear hw6
    have HB6 := Lib.hid hb6
    have HY6 := Lib.hid hY6
    have HZ6 := Lib.hid hZ6
    have HW6 := Lib.hid hW6
    have HA6 := Lib.hid (HA4.out.below hb6)
    have HD6 := Lib.hid (HD4.out.below hb6)
    have HG6 := Lib.hid (HG4.out.below hb6 HG4.out.lt)
    have hz6 : w4.heap.size < w6.heap.size := HY6.out.lt
    obtain ⟨news, hnr, hn1, hnk⟩ := nodes_news HD6.out
    have HND := Lib.hid (fun (W : World) (hb : Below w6.heap.size w6 W) => hnr.below hb)
    have HN1 := Lib.hid hn1
    have HNK := Lib.hid hnk
    have HNN := Lib.hid (show D3 = none → h.nodes.length = 0 from fun e => by
      rcases Nat.eq_zero_or_pos h.nodes.length with h0 | h0
      · exact h0
      · obtain ⟨ad, e', -⟩ := HD6.out.2 0 h0
        rw [e] at e'; cases e')
    have HRN := Lib.hid (show A3 = none → h.roots.length = 0 from fun e => by
      rcases Nat.eq_zero_or_pos h.roots.length with h0 | h0
      · exact h0
      · obtain ⟨ad, e', -⟩ := HA6.out.at_ 0 h0
        rw [e] at e'; cases e')
    have HRD := Lib.hid (fun (W : World) (hb : Below w6.heap.size w6 W) => (show Reads W 1 A3 h.roots.length (enc ic h.roots) from (HA6.out.below hb).1))
    have HF := Lib.hid (show ∀ W, Below w6.heap.size w6 W → W.cell? ⟨w.heap.size, 0, none⟩ = some (.slice A3 h.roots.length a3) ∧ W.cell? ⟨w.heap.size, 1, none⟩ = some (.slice D3 h.nodes.length d3) ∧ W.cell? ⟨w4.heap.size, 0, none⟩ = some (.slice (some ⟨w5.heap.size, 0, none⟩) x.slots.length x.slots.length) ∧ W.cell? ⟨w4.heap.size, 1, none⟩ = some (.slice AW x.words.length cW) ∧
        w.heap.size < W.heap.size ∧ w4.heap.size < W.heap.size ∧ w.heap.size < W.heap.size + 1 ∧ w4.heap.size < W.heap.size + 1 from fun W hb => by
      have hg := HG6.out.below hb HG6.out.lt
      have hy := HY6.out.below hb HY6.out.lt
      have := hg.lt
      have := hy.lt
      exact ⟨hg.cell 0, hg.cell 1, hy.cell 0, hy.cell 1, by omega, by omega, by omega, by omega⟩)
    have HF4 := Lib.hid (fun (W : World) (hb : Below w6.heap.size w6 W) => (let ⟨a, b, c, d, _⟩ := HF.out W hb; (⟨a, b, c, d⟩ : _ ∧ _ ∧ _ ∧ _)))
    have HL8 := Lib.hid (right_fits HR8.out).1
    have h8 : h.roots.length ≤ 8 := by rw [HL8.out]; exact Nat.le_refl _
    clear hnr hn1 hnk hb6 hY6 hZ6 hW6 HV3 HY HO HBc HY4 q0 q1 q2 q3 q4 y1 y2 z1 z2 hmk hsS
    go_cut [10] (fun s wx => ∃ (hp : Nat) (AR AM : Option Addr) (cR cM : Nat), s = .pointer (some ⟨hp, 0, none⟩) ∧ Hid (w6.heap.size ≤ hp) ∧ Hid (Blk wx hp 25 #[.slice AR h.roots.length cR, .slice AM (h.nodes.length + 1) cM]) ∧ Hid (wx.ownsRow w6.heap.size 3 1 (.slice AR h.roots.length cR) h.roots.length (enc ic h.roots)) ∧
        Hid (wx.ownsRow w6.heap.size 32 2 (.slice AM (h.nodes.length + 1) cM) (h.nodes.length + 1) (news ++ [.slice (some ⟨w5.heap.size, 0, none⟩) x.slots.length x.slots.length, .slice AW x.words.length cW])) ∧ Hid (Below w6.heap.size w6 wx))
    case first =>
      have hL := Below.refl w6.heap.size w6
      obtain ⟨c0, c1, c2, c3, za, zb, zc, zd⟩ := HF.out _ hL
      go_region_held3 (fun W => W.cell? ⟨w.heap.size, 0, none⟩ = some (.slice A3 h.roots.length a3) ∧ W.cell? ⟨w.heap.size, 1, none⟩ = some (.slice D3 h.nodes.length d3) ∧ W.cell? ⟨w4.heap.size, 0, none⟩ = some (.slice (some ⟨w5.heap.size, 0, none⟩) x.slots.length x.slots.length) ∧ W.cell? ⟨w4.heap.size, 1, none⟩ = some (.slice AW x.words.length cW))
        (first
          | exact ⟨c0, c1, c2, c3⟩
          | exact HF4.out _ ((hL.setCell (by simp only; omega) _).setCell (by simp only; omega) _)
          | exact HF4.out _ (((hL.alloc hL.size _).setCell (by simp only; omega) _).setCell (by simp only; omega) _)
          | exact HF4.out _ (hL.alloc hL.size _)
          | go_keep)
        (first
          | (revert HN; intro HN; refine step_append_any _ rfl _ _ _ (by rfl) w6.heap.size 32 i1 _ 2 48 Tryd.underlying23 hi1 hz11 hz12 hz13 rfl (by omega) (.slice AN h.nodes.length cN) h.nodes.length news (by rfl) (own_below HN (by (first | exact Below.refl _ _ | exact (Below.refl _ _).drew | exact below_1 _ _ | exact (below_1 _ _).drew | exact below_then (below_1 _ _) (below_1 _ _) | exact (below_then (below_1 _ _) (below_1 _ _)).drew | fail))) _ 1 1 [.slice (some ⟨w5.heap.size, 0, none⟩) x.slots.length x.slots.length, .slice AW x.words.length cW] (by rfl) (by (first | exact reads_blk (blk_on HLT (by (first | exact Below.refl _ _ | exact (Below.refl _ _).drew | exact below_1 _ _ | exact (below_1 _ _).drew | exact below_then (below_1 _ _) (below_1 _ _) | exact (below_then (below_1 _ _) (below_1 _ _)).drew | fail))) rfl | exact reads_blk (blk_second _ _ _ _) rfl | exact reads_blk ((Blk.new _ _ _).alloc _) rfl | exact reads_blk (Blk.new _ _ _) rfl | fail)) (by simp [Value.oneCell']) (fun e => by cases e) (by simp only [maxLen]; omega) (by omega) (near_low hL (by (first | exact Below.refl _ _ | exact (Below.refl _ _).drew | exact below_1 _ _ | exact (below_1 _ _).drew | exact below_then (below_1 _ _) (below_1 _ _) | exact (below_then (below_1 _ _) (below_1 _ _)).drew | fail))).size ?_; intro vM wM HM hgM hatM; obtain ⟨hL2, hK2⟩ := own_post HN hL (by (first | exact Below.refl _ _ | exact (Below.refl _ _).drew | exact below_1 _ _ | exact (below_1 _ _).drew | exact below_then (below_1 _ _) (below_1 _ _) | exact (below_then (below_1 _ _) (below_1 _ _)).drew | fail)) hgM; (try replace HR := hK2 _ _ _ _ _ _ HR (by decide)); (first | (replace HGR := blk_other (blk_on HGR (by (first | exact Below.refl _ _ | exact (Below.refl _ _).drew | exact below_1 _ _ | exact (below_1 _ _).drew | exact below_then (below_1 _ _) (below_1 _ _) | exact (below_then (below_1 _ _) (below_1 _ _)).drew | fail))) (own_below HN (by (first | exact Below.refl _ _ | exact (Below.refl _ _).drew | exact below_1 _ _ | exact (below_1 _ _).drew | exact below_then (below_1 _ _) (below_1 _ _) | exact (below_then (below_1 _ _) (below_1 _ _)).drew | fail))) (by decide) hgM) | (have HGR : Blk _ _ 25 #[.slice none 0 0, .slice none 0 0] := blk_other (by (first | exact blk_second _ _ _ _ | exact blk_second_drew _ _ _ _ | exact (Blk.new _ _ _).alloc _ | exact ((Blk.new _ _ _).alloc _).drewN 1 | exact Blk.new _ _ _ | exact (Blk.new _ _ _).drewN 1 | fail)) (own_below HN (by (first | exact Below.refl _ _ | exact (Below.refl _ _).drew | exact below_1 _ _ | exact (below_1 _ _).drew | exact below_then (below_1 _ _) (below_1 _ _) | exact (below_then (below_1 _ _) (below_1 _ _)).drew | fail))) (by decide) hgM) | skip); obtain ⟨AM, cM, rfl, hcM⟩ := own_form HM; replace hL := hL2; have hsz := hL.size; clear hL2 hK2 hgM hatM; obtain ⟨c0, c1, c2, c3, za, zb, zc, zd⟩ := HF.out _ hL; (try (revert HGR; intro HGR; have g0 := HGR.cell 0; have g1 := HGR.cell 1; have g2 := HGR.frozen 0; have g3 := HGR.frozen 1; have g4 := HGR.lt; simp only [List.getElem?_toArray, List.getElem?_cons_zero, List.getElem?_cons_succ] at g0 g1)))
          | (refine step_append_any _ rfl _ _ _ (by rfl) w6.heap.size 3 i0 _ 1 8 Tryd.underlying22 hi0 hz01 hz02 hz03 rfl (by omega) (.slice none 0 0) 0 [] (by rfl) (own_nil _ _ _ _) A3 h.roots.length a3 (enc ic h.roots) (by rfl) (HRD.out _ (near_low hL (by (first | exact Below.refl _ _ | exact (Below.refl _ _).drew | exact below_1 _ _ | exact (below_1 _ _).drew | exact below_then (below_1 _ _) (below_1 _ _) | exact (below_then (below_1 _ _) (below_1 _ _)).drew | fail)))) (ic_one _) HRN.out (by simp only [maxLen]; omega) (by omega) (near_low hL (by (first | exact Below.refl _ _ | exact (Below.refl _ _).drew | exact below_1 _ _ | exact (below_1 _ _).drew | exact below_then (below_1 _ _) (below_1 _ _) | exact (below_then (below_1 _ _) (below_1 _ _)).drew | fail))).size ?_; intro vR wR HRx hgR hatR; simp only [Nat.zero_add, List.nil_append] at HRx; obtain ⟨AR, cR, rfl, hcR⟩ := own_form HRx; obtain ⟨hL2, hK2⟩ := nil_post hL (by (first | exact Below.refl _ _ | exact (Below.refl _ _).drew | exact below_1 _ _ | exact (below_1 _ _).drew | exact below_then (below_1 _ _) (below_1 _ _) | exact (below_then (below_1 _ _) (below_1 _ _)).drew | fail)) hgR; have hNB := nil_below hgR; (try replace HN := own_below HN hK2); (try replace HM := own_below HM hK2); (first | (replace HLT := blk_near HLT (by (first | exact Below.refl _ _ | exact (Below.refl _ _).drew | exact below_1 _ _ | exact (below_1 _ _).drew | exact below_then (below_1 _ _) (below_1 _ _) | exact (below_then (below_1 _ _) (below_1 _ _)).drew | fail)) hNB) | (have HLT : Blk _ _ 32 #[.slice (some ⟨w5.heap.size, 0, none⟩) x.slots.length x.slots.length, .slice AW x.words.length cW] := blk_on (by (first | exact blk_second _ _ _ _ | exact blk_second_drew _ _ _ _ | exact (Blk.new _ _ _).alloc _ | exact ((Blk.new _ _ _).alloc _).drewN 1 | exact Blk.new _ _ _ | exact (Blk.new _ _ _).drewN 1 | fail)) hNB) | skip); (first | (replace HGR := blk_near HGR (by (first | exact Below.refl _ _ | exact (Below.refl _ _).drew | exact below_1 _ _ | exact (below_1 _ _).drew | exact below_then (below_1 _ _) (below_1 _ _) | exact (below_then (below_1 _ _) (below_1 _ _)).drew | fail)) hNB) | (have HGR : Blk _ _ 25 #[.slice none 0 0, .slice none 0 0] := blk_on (by (first | exact blk_second _ _ _ _ | exact blk_second_drew _ _ _ _ | exact (Blk.new _ _ _).alloc _ | exact ((Blk.new _ _ _).alloc _).drewN 1 | exact Blk.new _ _ _ | exact (Blk.new _ _ _).drewN 1 | fail)) hNB) | skip); replace hL := hL2; have hsz := hL.size; clear hL2 hK2 hNB hgR; obtain ⟨c0, c1, c2, c3, za, zb, zc, zd⟩ := HF.out _ hL; (try (revert HGR; intro HGR; have g0 := HGR.cell 0; have g1 := HGR.cell 1; have g2 := HGR.frozen 0; have g3 := HGR.frozen 1; have g4 := HGR.lt; simp only [List.getElem?_toArray, List.getElem?_cons_zero, List.getElem?_cons_succ] at g0 g1)); have HR := HRx; clear HRx hatR)
          | (refine step_append_any _ rfl _ _ _ (by rfl) w6.heap.size 32 i1 _ 2 48 Tryd.underlying23 hi1 hz11 hz12 hz13 rfl (by omega) (.slice none 0 0) 0 [] (by rfl) (own_nil _ _ _ _) D3 h.nodes.length d3 news (by rfl) (HND.out _ (near_low hL (by (first | exact Below.refl _ _ | exact (Below.refl _ _).drew | exact below_1 _ _ | exact (below_1 _ _).drew | exact below_then (below_1 _ _) (below_1 _ _) | exact (below_then (below_1 _ _) (below_1 _ _)).drew | fail)))) HN1.out HNN.out (by simp only [maxLen]; omega) (by omega) (near_low hL (by (first | exact Below.refl _ _ | exact (Below.refl _ _).drew | exact below_1 _ _ | exact (below_1 _ _).drew | exact below_then (below_1 _ _) (below_1 _ _) | exact (below_then (below_1 _ _) (below_1 _ _)).drew | fail))).size ?_; intro vN wN HNx hgN hatN; simp only [Nat.zero_add, List.nil_append] at HNx; obtain ⟨AN, cN, rfl, hcN⟩ := own_form HNx; obtain ⟨hL2, hK2⟩ := nil_post hL (by (first | exact Below.refl _ _ | exact (Below.refl _ _).drew | exact below_1 _ _ | exact (below_1 _ _).drew | exact below_then (below_1 _ _) (below_1 _ _) | exact (below_then (below_1 _ _) (below_1 _ _)).drew | fail)) hgN; have hNB := nil_below hgN; (try replace HR := own_below HR hK2); (try replace HM := own_below HM hK2); (first | (replace HLT := blk_near HLT (by (first | exact Below.refl _ _ | exact (Below.refl _ _).drew | exact below_1 _ _ | exact (below_1 _ _).drew | exact below_then (below_1 _ _) (below_1 _ _) | exact (below_then (below_1 _ _) (below_1 _ _)).drew | fail)) hNB) | (have HLT : Blk _ _ 32 #[.slice (some ⟨w5.heap.size, 0, none⟩) x.slots.length x.slots.length, .slice AW x.words.length cW] := blk_on (by (first | exact blk_second _ _ _ _ | exact blk_second_drew _ _ _ _ | exact (Blk.new _ _ _).alloc _ | exact ((Blk.new _ _ _).alloc _).drewN 1 | exact Blk.new _ _ _ | exact (Blk.new _ _ _).drewN 1 | fail)) hNB) | skip); (first | (replace HGR := blk_near HGR (by (first | exact Below.refl _ _ | exact (Below.refl _ _).drew | exact below_1 _ _ | exact (below_1 _ _).drew | exact below_then (below_1 _ _) (below_1 _ _) | exact (below_then (below_1 _ _) (below_1 _ _)).drew | fail)) hNB) | (have HGR : Blk _ _ 25 #[.slice none 0 0, .slice none 0 0] := blk_on (by (first | exact blk_second _ _ _ _ | exact blk_second_drew _ _ _ _ | exact (Blk.new _ _ _).alloc _ | exact ((Blk.new _ _ _).alloc _).drewN 1 | exact Blk.new _ _ _ | exact (Blk.new _ _ _).drewN 1 | fail)) hNB) | skip); replace hL := hL2; have hsz := hL.size; clear hL2 hK2 hNB hgN; obtain ⟨c0, c1, c2, c3, za, zb, zc, zd⟩ := HF.out _ hL; (try (revert HGR; intro HGR; have g0 := HGR.cell 0; have g1 := HGR.cell 1; have g2 := HGR.frozen 0; have g3 := HGR.frozen 1; have g4 := HGR.lt; simp only [List.getElem?_toArray, List.getElem?_cons_zero, List.getElem?_cons_succ] at g0 g1)); have HN := HNx; clear HNx hatN))
      all_goals
        go_wp2_with fail
        go_meet
        first
          | exact ⟨_, AR, AM, cR, cM, rfl, Lib.hid hL.size, Lib.hid (Blk.new _ _ _), Lib.hid (own_below HR (below_1 _ _)), Lib.hid (own_below HM (below_1 _ _)), Lib.hid (hL.alloc hL.size _)⟩
          | exact ⟨_, AR, AM, cR, cM, rfl, Lib.hid (by omega), Lib.hid ((HGR.set_ 0 _).set_ 1 _), Lib.hid (own_far (own_far HR (own_blk_ne HR HGR (by decide)) _) (own_blk_ne HR HGR (by decide)) _), Lib.hid (own_far (own_far HM (own_blk_ne HM HGR (by decide)) _) (own_blk_ne HM HGR (by decide)) _), Lib.hid ((hL.setCell (by simp only; omega) _).setCell (by simp only; omega) _)⟩
    case rest =>
      obtain ⟨hp, AR, AM, cR, cM, rfl, Hhp, HH, HR, HM, HL⟩ := hcut
      have hok := newNd_ok hs15 hw30 0
      obtain ⟨y, hy⟩ : ∃ y, y = newNd x.slots.length x.words := ⟨_, rfl⟩
      rw [← hy] at hok
      have hy1 : y.slots = List.replicate x.slots.length 0 := by rw [hy]; rfl
      have hy2 : y.words = x.words.map wordI := by rw [hy]; rfl
      have hys : ∀ a ∈ y.slots, a = 0 := by rw [hy1]; intro a ha; exact (List.mem_replicate.1 ha).2
      have hyl : y.slots.length = x.slots.length ∧ y.words.length = x.words.length := by rw [hy1, hy2]; simp
      have hBL : Below w.heap.size w w6 := HB4.out.trans (HB6.out.mono HB4.out.size)
      have hNM : ∀ W, Below w6.heap.size w6 W → W.ownsRow w6.heap.size 32 2 (.slice AM (h.nodes.length + 1) cM) (h.nodes.length + 1) (news ++ [.slice (some ⟨w5.heap.size, 0, none⟩) x.slots.length x.slots.length, .slice AW x.words.length cW]) → Nodes W AM (h.nodes ++ [y]) := fun W hb ho =>
        grown_nodes (y := y) (cs := x.slots.length) (cw := cW) HNK.out (by rw [hy1]; exact HZ6.out) (by rw [hy2]; exact HW6.out) rfl (by omega) (by rw [hyl.1, hyl.2]; exact ho) hb
      have HNM := Lib.hid hNM
      have HOK := Lib.hid hok
      have HYS := Lib.hid hys
      have HYL := Lib.hid hyl
      clear hNM hok hys hyl hy hy1 hy2
      have hzp : w6.heap.size ≤ hp := Hhp.out
      have hTwo : Two wc wc w.heap.size hp A3 D3 AR AM a3 d3 cR cM h (oneMore h y) :=
        { b1 := HG6.out.below HL.out HG6.out.lt
          b2 := by
            have : (oneMore h y).nodes.length = h.nodes.length + 1 := by simp [oneMore]
            rw [this]; exact HH.out
          low := Below.refl _ _
          tab := HT.out.below (below_then hBL HL.out)
          g1 := HA6.out.below HL.out
          g2 := HD6.out.below HL.out
          h1 := Ints.of_own HR.out (by omega)
          h2 := HNM.out _ HL.out HM.out }
      have H2d := hTwo.like (like_drew (like_self _))
      obtain ⟨x1, x2, x3, x4⟩ := hTwo.cells
      have z1 := hTwo.b1.lt
      have z2 := hTwo.b2.lt
      have HS1 := Lib.hid (oneMore_size HR8.out h60 HOK.out)
      obtain ⟨sz, hZ⟩ : ∃ sz, size h = sz := ⟨_, rfl⟩
      have Z1 := Lib.hid hZ
      have Z2 := Lib.hid (HS1.out.1.trans hZ)
      have e1 : ((sz : Int) == (sz : Int)) = true := by simp
      have HBL := Lib.hid hBL
      clear hZ hBL hTwo
      go_upto_region 12 with fail
      go_cut [82] (fun s wx => s = .bool false ∧ Hid (Below wc.heap.size wc wx))
      case first =>
        go_wp2_with fail
        go_region_held3 (fun W => W.cell? ⟨w.heap.size, 0, none⟩ = some (.slice A3 h.roots.length a3) ∧ W.cell? ⟨w.heap.size, 1, none⟩ = some (.slice D3 h.nodes.length d3) ∧ W.cell? ⟨hp, 0, none⟩ = some (.slice AR (oneMore h y).roots.length cR) ∧ W.cell? ⟨hp, 1, none⟩ = some (.slice AM (oneMore h y).nodes.length cM) ∧
            Two wc W w.heap.size hp A3 D3 AR AM a3 d3 cR cM h (oneMore h y))
          (first
            | exact ⟨hc.1, hc.2.1, hc.2.2.1, hc.2.2.2, hD⟩
            | exact ⟨x1, x2, x3, x4, H2d⟩
            | go_keep)
          (first
            | (go_at_call 13; refine (two_same hD).mono ?_; rw [HS1.out.2]; rintro e w8 ⟨rfl, hc, hD⟩)
            | (go_at_call 15; revert hZ1; intro hZ1; refine (two_size _ _ h _ _ hD.g1 hD.g2 hD).mono ?_; rw [Z1.out]; rintro e w8 ⟨rfl, hc, hD⟩)
            | (go_at_call 15; refine (two_size _ _ (oneMore h y) _ _ H2d.h1 H2d.h2 H2d).mono ?_; rw [Z2.out]; rintro e w8 ⟨rfl, hc, hD⟩; have hZ1 := Lib.hid hD))
        go_wp2_with fail
        go_meet
        exact ⟨rfl, Lib.hid hD.low⟩
      case rest =>
        obtain ⟨rfl, hcut⟩ := hcut
        obtain ⟨w7, hw7⟩ : ∃ w7, w7 = wc := ⟨_, rfl⟩
        subst hw7
        have HL7 := Lib.hid (below_then HL.out hcut.out)
        have HR7 := Lib.hid (own_below HR.out hcut.out)
        have HM7 := Lib.hid (own_below HM.out hcut.out)
        have HH7 := Lib.hid (HH.out.below hcut.out HH.out.lt)
        clear HL HR HM HH H2d HS1 hcut x1 x2 x3 x4 z1 z2
        obtain ⟨k, hk⟩ : ∃ k : Nat, root % 8 = k := ⟨(root % 8).toNat, by omega⟩
        have hk8 : k < 8 := by omega
        have hrem : (root.tmod 8 + 8) % 8 = k := by
          rw [← hk, Int.add_emod_right, Int.tmod_eq_emod]
          split <;> omega
        have htm1 : -8 < root.tmod 8 := Int.lt_tmod_of_pos root (by omega)
        have htm2 : root.tmod 8 < 8 := Int.tmod_lt_of_pos root (by omega)
        obtain ⟨gR, rfl, hgR, hgRl, ⟨ru, r0⟩, r1, hR8⟩ := own_set_ints HR7.out (k := k) (by rw [HL8.out]; exact hk8) ((h.nodes.length : Int) + 1)
        have HR8' := Lib.hid hR8
        have hkr : k < h.roots.length := by rw [HL8.out]; exact hk8
        have q0 := HH7.out.cell 0
        have q1 := HH7.out.lt
        simp only [List.getElem?_toArray, List.getElem?_cons_zero, List.getElem?_cons_succ] at q0
        clear hk hR8
        go_upto_region 16 with fail
        rw [hrem]
        clear hrem htm1 htm2
        have hne1 : gR ≠ hp := fun e => own_blk_ne HR7.out HH7.out (by decide) (by rw [e]; rfl)
        have hHH8 : Blk (w7.setCell ⟨gR, k, none⟩ (.int .i64 ((h.nodes.length : Int) + 1))) hp 25 #[.slice (some ⟨gR, 0, none⟩) h.roots.length cR, .slice AM (h.nodes.length + 1) cM] := HH7.out.far (by simp only; omega) _
        have hHM8 := own_far (p := ⟨gR, k, none⟩) HM7.out (fun e => own_other HM7.out HR7.out (by decide) gR e rfl) (.int .i64 ((h.nodes.length : Int) + 1))
        have hHL8 : Below w6.heap.size w6 (w7.setCell ⟨gR, k, none⟩ (.int .i64 ((h.nodes.length : Int) + 1))) := HL7.out.setCell (by simp only; omega) _
        generalize hw8 : w7.setCell ⟨gR, k, none⟩ (.int .i64 ((h.nodes.length : Int) + 1)) = w8 at HR8' hHH8 hHM8 hHL8 ⊢
        have HH8 := Lib.hid hHH8
        have HM8 := Lib.hid hHM8
        have HL8' := Lib.hid hHL8
        have HRD8 := Lib.hid (fun (W : World) (hb : Below w8.heap.size w8 W) => HRD.out W (below_then HL8'.out hb))
        have HF8 := Lib.hid (show ∀ W, Below w8.heap.size w8 W → W.cell? ⟨w.heap.size, 0, none⟩ = some (.slice A3 h.roots.length a3) ∧ W.cell? ⟨w.heap.size, 1, none⟩ = some (.slice D3 h.nodes.length d3) ∧ w.heap.size < W.heap.size ∧ w.heap.size < W.heap.size + 1 from fun W hb => by
          obtain ⟨a, b, c, d, e, f, g, i⟩ := HF.out W (below_then HL8'.out hb)
          exact ⟨a, b, e, g⟩)
        have HF9 := Lib.hid (fun (W : World) (hb : Below w8.heap.size w8 W) => (let ⟨a, b, _⟩ := HF8.out W hb; (⟨a, b⟩ : _ ∧ _)))
        have hz8 : w6.heap.size ≤ w8.heap.size := HL8'.out.size
        have hpz : hp < w8.heap.size := HH8.out.lt
        clear hHH8 hHM8 hHL8 hw8 HR7 HM7 HL7 HH7 q0 q1 r0 r1 hne1
        go_cut [12] (fun s wx => ∃ (qp : Nat) (AQ : Option Addr) (cQ : Nat), s = .pointer (some ⟨qp, 0, none⟩) ∧ Hid (w8.heap.size ≤ qp) ∧ Hid (Blk wx qp 25 #[.slice AQ h.roots.length cQ, .slice D3 h.nodes.length d3]) ∧ Hid (wx.ownsRow w8.heap.size 3 1 (.slice AQ h.roots.length cQ) h.roots.length (enc ic h.roots)) ∧ Hid (Below w8.heap.size w8 wx))
        case first =>
          have hL := Below.refl w8.heap.size w8
          obtain ⟨c0, c1, za, zc⟩ := HF8.out _ hL
          go_region_held3 (fun W => W.cell? ⟨w.heap.size, 0, none⟩ = some (.slice A3 h.roots.length a3) ∧ W.cell? ⟨w.heap.size, 1, none⟩ = some (.slice D3 h.nodes.length d3))
            (first
              | exact ⟨c0, c1⟩
              | exact HF9.out _ ((hL.setCell (by simp only; omega) _).setCell (by simp only; omega) _)
              | exact HF9.out _ (((hL.alloc hL.size _).setCell (by simp only; omega) _).setCell (by simp only; omega) _)
              | exact HF9.out _ (hL.alloc hL.size _)
              | go_keep)
            ((refine step_append_any _ rfl _ _ _ (by rfl) w8.heap.size 3 i0 _ 1 8 Tryd.underlying22 hi0 hz01 hz02 hz03 rfl (by omega) (.slice none 0 0) 0 [] (by rfl) (own_nil _ _ _ _) A3 h.roots.length a3 (enc ic h.roots) (by rfl) (HRD8.out _ (near_low hL (by (first | exact Below.refl _ _ | exact (Below.refl _ _).drew | exact below_1 _ _ | exact (below_1 _ _).drew | exact below_then (below_1 _ _) (below_1 _ _) | exact (below_then (below_1 _ _) (below_1 _ _)).drew | fail)))) (ic_one _) HRN.out (by simp only [maxLen]; omega) (by omega) (near_low hL (by (first | exact Below.refl _ _ | exact (Below.refl _ _).drew | exact below_1 _ _ | exact (below_1 _ _).drew | exact below_then (below_1 _ _) (below_1 _ _) | exact (below_then (below_1 _ _) (below_1 _ _)).drew | fail))).size ?_; intro vR wR HRx hgx hatR; simp only [Nat.zero_add, List.nil_append] at HRx; obtain ⟨AQ, cQ, rfl, hcQ⟩ := own_form HRx; obtain ⟨hL2, hK2⟩ := nil_post hL (by (first | exact Below.refl _ _ | exact (Below.refl _ _).drew | exact below_1 _ _ | exact (below_1 _ _).drew | exact below_then (below_1 _ _) (below_1 _ _) | exact (below_then (below_1 _ _) (below_1 _ _)).drew | fail)) hgx; have hNB := nil_below hgx; (first | (have HGR : Blk _ _ 25 #[.slice none 0 0, .slice none 0 0] := blk_on (by (first | exact blk_second _ _ _ _ | exact blk_second_drew _ _ _ _ | exact (Blk.new _ _ _).alloc _ | exact ((Blk.new _ _ _).alloc _).drewN 1 | exact Blk.new _ _ _ | exact (Blk.new _ _ _).drewN 1 | fail)) hNB) | skip); replace hL := hL2; have hsz := hL.size; clear hL2 hK2 hNB hgx; obtain ⟨c0, c1, za, zc⟩ := HF8.out _ hL; (try (revert HGR; intro HGR; have g0 := HGR.cell 0; have g1 := HGR.cell 1; have g2 := HGR.frozen 0; have g3 := HGR.frozen 1; have g4 := HGR.lt; simp only [List.getElem?_toArray, List.getElem?_cons_zero, List.getElem?_cons_succ] at g0 g1)); clear hatR))
          all_goals
            go_wp2_with fail
            go_meet
            first
              | exact ⟨_, AQ, cQ, rfl, Lib.hid hL.size, Lib.hid (Blk.new _ _ _), Lib.hid (own_below HRx (below_1 _ _)), Lib.hid (hL.alloc hL.size _)⟩
              | exact ⟨_, AQ, cQ, rfl, Lib.hid (by omega), Lib.hid ((HGR.set_ 0 _).set_ 1 _), Lib.hid (own_far (own_far HRx (own_blk_ne HRx HGR (by decide)) _) (own_blk_ne HRx HGR (by decide)) _), Lib.hid ((hL.setCell (by simp only; omega) _).setCell (by simp only; omega) _)⟩
        case rest =>
          obtain ⟨qp, AQ, cQ, rfl, Hqp, HQ, HQR, HQL⟩ := hcut
          obtain ⟨w9, hw9⟩ : ∃ w9, w9 = wc := ⟨_, rfl⟩
          subst hw9
          obtain ⟨gQ, rfl, hgQ, hgQl, ⟨qu, r0⟩, r1, hQ8⟩ := own_set_ints HQR.out (k := k) hkr 0
          have q0 := HQ.out.cell 0
          have q1 := HQ.out.lt
          simp only [List.getElem?_toArray, List.getElem?_cons_zero, List.getElem?_cons_succ] at q0
          have HQ8 := Lib.hid hQ8
          clear hQ8
          go_upto_region 18 with fail
          have hne1 : gQ ≠ qp := fun e => own_blk_ne HQR.out HQ.out (by decide) (by rw [e]; rfl)
          have hB9 : Below w8.heap.size w8 (w9.setCell ⟨gQ, k, none⟩ (.int .i64 0)) := HQL.out.setCell (by simp only; omega) _
          have hQB : Blk (w9.setCell ⟨gQ, k, none⟩ (.int .i64 0)) qp 25 #[.slice (some ⟨gQ, 0, none⟩) h.roots.length cQ, .slice D3 h.nodes.length d3] := HQ.out.far (by simp only; omega) _
          generalize hw10 : w9.setCell ⟨gQ, k, none⟩ (.int .i64 0) = w10 at HQ8 hB9 hQB ⊢
          have hlr : (atRoot h y k).roots.length = h.roots.length := by simp [atRoot]
          have hln : (atRoot h y k).nodes.length = h.nodes.length + 1 := by simp [atRoot]
          have hlq : (lessRoot h k).roots.length = h.roots.length := by simp [lessRoot]
          have hTwo : Two w10 w10 hp qp (some ⟨gR, 0, none⟩) AM (some ⟨gQ, 0, none⟩) D3 cR cM cQ d3 (atRoot h y k) (lessRoot h k) :=
            { b1 := by rw [hlr, hln]; exact HH8.out.below hB9 hpz
              b2 := by rw [hlq]; exact hQB
              low := Below.refl _ _
              tab := HT.out.below (below_then HBL.out (below_then HL8'.out hB9))
              g1 := Ints.below (Ints.of_own HR8'.out (by omega)) hB9
              g2 := HNM.out _ (below_then HL8'.out hB9) (own_below HM8.out hB9)
              h1 := Ints.of_own HQ8.out (by omega)
              h2 := HD6.out.below (below_then HL8'.out hB9) }
          have H2d := hTwo.like (like_drew (like_self _))
          obtain ⟨x1, x2, x3, x4⟩ := hTwo.cells
          have hY10 := HY6.out.below (below_then HL8'.out hB9) HY6.out.lt
          have x5 := hY10.cell 0
          have x6 := hY10.cell 1
          simp only [List.getElem?_toArray, List.getElem?_cons_zero, List.getElem?_cons_succ] at x5 x6
          have z1 := hTwo.b1.lt
          have z2 := hTwo.b2.lt
          have z3 := hY10.lt
          have hgs := grows_sizes HR8.out h60 HOK.out hk8 HYS.out
          rw [HYL.out.1, HYL.out.2] at hgs
          have hrl := right_parts (lessRoot_right (k := k) HR8.out)
          have HRL := Lib.hid hrl
          have HRT := Lib.hid (atRoot_right (k := k) HR8.out h60 HOK.out)
          obtain ⟨sz, hZ⟩ : ∃ sz, size (lessRoot h k) = sz := ⟨_, rfl⟩
          obtain ⟨nz, hN⟩ : ∃ nz, (number (lessRoot h k)).nodes.length = nz := ⟨_, rfl⟩
          have hZ1 : size (atRoot h y k) = sz + 1 + x.slots.length + x.words.length := by rw [hgs.1, hZ]
          have hN1 : (canon (atRoot h y k)).nodes.length = nz + 1 := by rw [hgs.2, hN]
          have hszb : sz ≤ 1000000 := by rw [← hZ]; exact size_bound (lessRoot_right (k := k) HR8.out)
          have hnzb : nz ≤ 1000 := by rw [← hN]; exact (right_parts (number_right (lessRoot_right (k := k) HR8.out))).2.1
          have Z1 := Lib.hid (show ((size (atRoot h y k) : Nat) : Int) = (sz : Int) + 1 + (x.slots.length : Int) + (x.words.length : Int) by rw [hZ1]; omega)
          have Z2 := Lib.hid hZ
          have N1 := Lib.hid hN1
          have N2 := Lib.hid hN
          have HYC := Lib.hid (show ∀ W, Below w10.heap.size w10 W → W.cell? ⟨w4.heap.size, 0, none⟩ = some (.slice (some ⟨w5.heap.size, 0, none⟩) x.slots.length x.slots.length) ∧ W.cell? ⟨w4.heap.size, 1, none⟩ = some (.slice AW x.words.length cW) from fun W hb =>
            ⟨(hY10.below hb hY10.lt).cell 0, (hY10.below hb hY10.lt).cell 1⟩)
          have e1 : ((sz : Int) + 1 + (x.slots.length : Int) + (x.words.length : Int) == (sz : Int) + 1 + (x.slots.length : Int) + (x.words.length : Int)) = true := by simp
          have e2 : ((nz : Int) + 1 == (nz : Int) + 1) = true := by simp
          have u1 : IntKind.i64.wrap ((sz : Int) + 1) = (sz : Int) + 1 := IntWalk.i64_in _ (by omega)
          have u2 : IntKind.i64.wrap ((sz : Int) + 1 + (x.slots.length : Int)) = (sz : Int) + 1 + (x.slots.length : Int) := IntWalk.i64_in _ (by omega)
          have u3 : IntKind.i64.wrap ((sz : Int) + 1 + (x.slots.length : Int) + (x.words.length : Int)) = (sz : Int) + 1 + (x.slots.length : Int) + (x.words.length : Int) := IntWalk.i64_in _ (by omega)
          have u4 : IntKind.i64.wrap ((nz : Int) + 1) = (nz : Int) + 1 := IntWalk.i64_in _ (by omega)
          have hF := field_nodes
          have HB9 := Lib.hid (below_then HBL.out (below_then HL8'.out hB9))
          clear hgs hZ hN hZ1 hN1 hrl hY10 hTwo hB9 hQB hw10 hlr hln hlq hne1 q0 q1 r0 r1
          go_wp2_with fail
          go_region_held3 (fun W => W.cell? ⟨hp, 0, none⟩ = some (.slice (some ⟨gR, 0, none⟩) (atRoot h y k).roots.length cR) ∧ W.cell? ⟨hp, 1, none⟩ = some (.slice AM (atRoot h y k).nodes.length cM) ∧ W.cell? ⟨qp, 0, none⟩ = some (.slice (some ⟨gQ, 0, none⟩) (lessRoot h k).roots.length cQ) ∧ W.cell? ⟨qp, 1, none⟩ = some (.slice D3 (lessRoot h k).nodes.length d3) ∧
              W.cell? ⟨w4.heap.size, 0, none⟩ = some (.slice (some ⟨w5.heap.size, 0, none⟩) x.slots.length x.slots.length) ∧ W.cell? ⟨w4.heap.size, 1, none⟩ = some (.slice AW x.words.length cW) ∧ Two w10 W hp qp (some ⟨gR, 0, none⟩) AM (some ⟨gQ, 0, none⟩) D3 cR cM cQ d3 (atRoot h y k) (lessRoot h k))
            (first
              | exact ⟨hc.1, hc.2.1, hc.2.2.1, hc.2.2.2, (HYC.out _ hD.low).1, (HYC.out _ hD.low).2, hD⟩
              | exact ⟨x1, x2, x3, x4, x5, x6, H2d⟩
              | go_keep)
            (first
              | (go_at_call 19; revert hT5; intro hT5; refine (two_refcanon HRL.out hD).mono ?_; rw [N2.out]; rintro e w16 ⟨X6, m6, Y6, n6, rfl, hc, hD⟩)
              | (go_at_call 17; refine (two_canon _ _ (atRoot h y k) _ _ HRT.out hD.g1 hD.g2 hD).mono ?_; rw [N1.out]; rintro e w15 ⟨X5, m5, Y5, n5, rfl, hV5, hc, hD⟩; have hT5 := Lib.hid hD)
              | (go_at_call 15; revert hZ1; intro hZ1; refine (two_size _ _ (lessRoot h k) _ _ hD.h1 hD.h2 hD).mono ?_; rw [Z2.out]; rintro e w14 ⟨rfl, hc, hD⟩)
              | (go_at_call 15; refine (two_size _ _ (atRoot h y k) _ _ H2d.g1 H2d.g2 H2d).mono ?_; rw [Z1.out]; rintro e w13 ⟨rfl, hc, hD⟩; have hZ1 := Lib.hid hD))
          go_wp2_with fail
          go_ret
          exact ⟨rfl, below_then HB9.out hD.low⟩

end Go.Proofs.YtbelbhdhcgpcpaaDoor.Gr
