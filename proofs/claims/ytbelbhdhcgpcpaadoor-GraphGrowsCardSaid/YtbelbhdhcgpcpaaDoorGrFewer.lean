/- flittinglaw16.GraphFewer: its walk. -/
import Derived.Test.YtbelbhdhcgpcpaaDoorGrScan
import Derived.Test.YtbelbhdhcgpcpaaDoorGrAlive
import Derived.Test.YtbelbhdhcgpcpaaDoorGrEightW
import Derived.Test.YtbelbhdhcgpcpaaDoorGrEightR
namespace Go.Proofs.YtbelbhdhcgpcpaaDoor.Gr
open Go.RowKit Go.Proofs.YtbelbhdhcgpcpaaDoor.Base Go.Proofs.YtbelbhdhcgpcpaaDoor.Str
set_option linter.unusedVariables false
set_option linter.unusedSimpArgs false

theorem next_yes (n m : Int) (M : Nat) (w : World) (hM : Blk w M 3 #[.int .i64 m]) (h0 : 0 ≤ m) (h1 : m ≤ 1000000) (hn : n ≤ m + 1) (hn0 : 0 ≤ n) :
    Calls Tryd.prog 21 #[.int .i64 n, .pointer (some ⟨M, 0, none⟩)] w fun e w' => e = .returned (.bool true) ∧ w' = w.setCell ⟨M, 0, none⟩ (.int .i64 (max m n)) := by
  have c0 := hM.cell 0
  have f0 := hM.frozen 0
  have z0 := hM.lt
  simp only [List.getElem?_toArray, List.getElem?_cons_zero] at c0
  have d0 : decide (n > m + 1) = false := decide_eq_false (by omega)
  clear hM
  go_enter Tryd.func21, Tryd.ntmps21
  go_wp2
  go_ret
  exact ⟨rfl, rfl⟩

/-- The numbers of the numbered form. -/

theorem drop_get {α : Type} {l : List α} {k : Nat} (h : k < l.length) : l.drop k = l[k] :: l.drop (k + 1) := List.drop_eq_getElem_cons h

set_option maxRecDepth 100000 in
set_option maxHeartbeats 8000000 in
theorem fewer_any (A D : Option Addr) (g : Gr) (a d : Nat) (w : World) (hA : Ints w A g.roots) (hD : Nodes w D g.nodes) (ht : Tab w) :
    Calls Tryd.prog 6 #[.agg #[.slice A g.roots.length a, .slice D g.nodes.length d]] w fun e w' => e = .returned (.bool true) ∧ Below w.heap.size w w' := by
  have HA := Lib.hid hA
  have HD := Lib.hid hD
  have HT := Lib.hid ht
  have HG := Lib.hid (Blk.new w 25 #[.slice A g.roots.length a, .slice D g.nodes.length d])
  have HB := Lib.hid (below_1 w (.cells #[.slice A g.roots.length a, .slice D g.nodes.length d] 25))
  clear hA hD ht
  go_enter Tryd.func6, Tryd.ntmps6
  go_wp2_with fail
  refine (light_any A D g a d _ (HA.out.below HB.out) (HD.out.below HB.out)).mono ?_
  rintro e w1 ⟨⟨b, rfl, hb⟩, hb1⟩
  have HB1 := Lib.hid (below_then HB.out hb1)
  have HG1 := Lib.hid (HG.out.below hb1 HG.out.lt)
  have HS := Lib.hid hb
  clear hb hb1 HG
  cases b
  · go_wp2_with fail
    refine (alive_any w1 (HT.out.below HB1.out)).mono ?_
    rintro e w2 ⟨rfl, hb2⟩
    have HB2 := Lib.hid (below_then HB1.out hb2)
    clear hb2
    go_wp2
    go_ret
    exact ⟨rfl, HB2.out⟩
  · go_wp2_with fail
    refine (alive_any w1 (HT.out.below HB1.out)).mono ?_
    rintro e w2 ⟨rfl, hb2⟩
    have HB2 := Lib.hid (below_then HB1.out hb2)
    have HG2 := Lib.hid (HG1.out.below hb2 HG1.out.lt)
    have c0 := HG2.out.cell 0
    have c1 := HG2.out.cell 1
    simp only [List.getElem?_toArray, List.getElem?_cons_zero, List.getElem?_cons_succ] at c0 c1
    clear hb2
    go_wp2_with fail
    refine (eight_any A D g a d w2 (HS.out trivial) (HA.out.below HB2.out) (HD.out.below HB2.out)).mono ?_
    rintro e w3 ⟨v, rfl, hV, hb3⟩
    have HR8 := Lib.hid (eight_right (HS.out trivial))
    have HB3 := Lib.hid (below_then HB2.out hb3)
    have HG3 := Lib.hid (HG2.out.below hb3 HG2.out.lt)
    have HV := Lib.hid hV
    have hzg := HG2.out.lt
    generalize eight g = h at hV HV HR8
    obtain ⟨A3, a3, D3, d3, rfl, -, -⟩ := hV.now
    have HV3 := Lib.hid (show GrV ((w3.setCell ⟨w.heap.size, 0, none⟩ (.slice A3 h.roots.length a3)).setCell ⟨w.heap.size, 1, none⟩ (.slice D3 h.nodes.length d3)) (.agg #[.slice A3 h.roots.length a3, .slice D3 h.nodes.length d3]) h from
      HV.out (fun b => b = w.heap.size) _ (mod_set' (S := fun b => b = w.heap.size) (mod_set' (S := fun b => b = w.heap.size) (Mod.refl _ _) rfl _) rfl _) (by rintro b rfl; exact hzg))
    have HB4 := Lib.hid (show Below w.heap.size w ((w3.setCell ⟨w.heap.size, 0, none⟩ (.slice A3 h.roots.length a3)).setCell ⟨w.heap.size, 1, none⟩ (.slice D3 h.nodes.length d3)) from (HB3.out.setCell (by simp) _).setCell (by simp) _)
    have HG4 := Lib.hid (show Blk ((w3.setCell ⟨w.heap.size, 0, none⟩ (.slice A3 h.roots.length a3)).setCell ⟨w.heap.size, 1, none⟩ (.slice D3 h.nodes.length d3)) w.heap.size 25 #[.slice A3 h.roots.length a3, .slice D3 h.nodes.length d3] from
      (HG3.out.set_ 0 (.slice A3 h.roots.length a3)).set_ 1 (.slice D3 h.nodes.length d3))
    have x0 := HG3.out.cell 0
    have x1 := HG3.out.cell 1
    have f0 := HG3.out.frozen 0
    have f1 := HG3.out.frozen 1
    have x2 := HG3.out.lt
    simp only [List.getElem?_toArray, List.getElem?_cons_zero, List.getElem?_cons_succ] at x0 x1
    clear c0 c1 hb3 hV HV
    go_wp2_with fail
    generalize (w3.setCell ⟨w.heap.size, 0, none⟩ (.slice A3 h.roots.length a3)).setCell ⟨w.heap.size, 1, none⟩ (.slice D3 h.nodes.length d3) = w4 at HV3 HB4 HG4 ⊢
    obtain ⟨_, _, _, _, e4, hA4, hD4⟩ := HV3.out
    injection e4 with e4
    obtain ⟨e5, e6⟩ : (Value.slice A3 h.roots.length a3 = Value.slice _ h.roots.length _) ∧ (Value.slice D3 h.nodes.length d3 = Value.slice _ h.nodes.length _) := by simpa using e4
    injection e5 with e5 _ e5'
    injection e6 with e6 _ e6'
    subst e5 e5' e6 e6'
    clear e4 x0 x1 f0 f1 x2 HG3 HB3 HG2 HB2 HG1
    have HA4 := Lib.hid hA4
    have HD4 := Lib.hid hD4
    have hsc := number_scan HR8.out
    rw [← canon_right HR8.out] at hsc
    have hrc := number_right HR8.out
    rw [← canon_right HR8.out] at hrc
    have HSC := Lib.hid hsc
    have HRC := Lib.hid hrc
    clear hA4 hD4 hsc hrc
    refine (canon_any A3 D3 h a3 d3 w4 HR8.out HA4.out HD4.out).mono ?_
    rintro e w5 ⟨v, rfl, hV, hb5⟩
    obtain ⟨A5, a5, D5, d5, rfl, hA5, hD5⟩ := hV.now
    generalize canon h = c at *
    have HA5 := Lib.hid hA5
    have HD5 := Lib.hid hD5
    have HB5 := Lib.hid (below_then HB4.out hb5)
    have HG5 := Lib.hid (HG4.out.below hb5 HG4.out.lt)
    have HQ6 := Lib.hid (Blk.new w5 25 #[.slice A5 c.roots.length a5, .slice D5 c.nodes.length d5])
    have y0 := HG5.out.cell 0
    have y1 := HG5.out.cell 1
    have y2 := HG5.out.lt
    simp only [List.getElem?_toArray, List.getElem?_cons_zero, List.getElem?_cons_succ] at y0 y1
    have hcle := HSC.out.2.2
    have hhle := (right_fits HR8.out).2.1
    have hn5 : decide ((c.nodes.length : Int) > h.nodes.length) = false := decide_eq_false (by omega)
    have hn6 : decide (h.nodes.length < c.nodes.length) = false := decide_eq_false (by omega)
    have HB6 := Lib.hid (below_1 w5 (.cells #[.slice A5 c.roots.length a5, .slice D5 c.nodes.length d5] 25))
    clear hV hA5 hD5 hb5
    go_wp2_with fail
    have k := right_any A5 D5 c a5 d5 _ (HA5.out.below HB6.out) (HD5.out.below HB6.out)
    rw [HRC.out] at k
    refine k.mono ?_
    rintro e w7 ⟨rfl, hb7⟩
    have HQ7 := Lib.hid (HQ6.out.below hb7 HQ6.out.lt)
    have HB57 := Lib.hid (below_then HB6.out hb7)
    have HB7 := Lib.hid (below_then HB5.out HB57.out)
    have HA7 := Lib.hid (HA5.out.below HB57.out)
    have HD7 := Lib.hid (HD5.out.below HB57.out)
    have q0 := HQ7.out.cell 0
    have q1 := HQ7.out.cell 1
    have q2 := HQ7.out.lt
    simp only [List.getElem?_toArray, List.getElem?_cons_zero, List.getElem?_cons_succ] at q0 q1
    have Q0 := Lib.hid q0
    have Q1 := Lib.hid q1
    have HM7 := Lib.hid (Blk.new w7 3 #[.int .i64 0])
    have HBM := Lib.hid (below_1 w7 (.cells #[.int .i64 0] 3))
    have hcr := (right_fits HRC.out).2.2.1
    have hcl8 : c.roots.length ≤ 8 := by rw [(right_fits HRC.out).1]; exact Nat.le_refl _
    have hcn := (right_fits HRC.out).2.2.2
    have HCR := Lib.hid hcr
    have HCN := Lib.hid hcn
    clear k hb7 y0 y1 y2 HQ6 HA5 HD5 hcr hcn
    go_wp2_with fail
    go_loopw [39] (fun i wr => ∃ (k : Nat) (m : Int), k ≤ c.roots.length ∧ i = .int .i64 k ∧ Hid (Blk wr w7.heap.size 3 #[.int .i64 m]) ∧ Hid (Below w7.heap.size w7 wr) ∧ 0 ≤ m ∧ m ≤ 1000 ∧ Hid (stepOk m (c.roots.drop k)) ∧ Hid (most m (c.roots.drop k) = most 0 c.roots)) (fun i _ => c.roots.length - (intOf i).toNat)
    case atStart => exact ⟨0, 0, Nat.zero_le _, rfl, HM7, HBM, by omega, by omega, Lib.hid HSC.out.1, Lib.hid rfl⟩
    case round =>
      obtain ⟨k, m, hk, rfl, HM, HB, hm0, hm1, HO, HE⟩ := hrel
      by_cases hlt : k < c.roots.length
      · obtain ⟨ad, rfl, d1⟩ := (HA7.out.below HB.out).at_ k hlt
        have ho := HO.out
        have he := HE.out
        have hr := HCR.out c.roots[k] (List.getElem_mem hlt)
        rw [drop_get hlt] at ho he
        generalize c.roots[k] = n at d1 ho he hr
        obtain ⟨hr0, hr1⟩ := hr
        have hn1 := ho.1
        have HO' := Lib.hid ho.2
        have HE' := Lib.hid he
        have KN := Lib.hid (next_yes n m w7.heap.size wr HM.out hm0 (by omega) hn1 hr0)
        have hmx : max m n ≤ 1000 := by omega
        have hmx0 : 0 ≤ max m n := by omega
        clear ho he hr1
        go_wp2_with fail
        refine KN.out.mono ?_
        rintro e w8 ⟨rfl, rfl⟩
        go_wp2_with fail
        go_roundw
        case rel =>
          exact ⟨k + 1, max m n, by omega, by go_num, Lib.hid (show Blk _ _ _ _ from HM.out.set_ 0 _), Lib.hid (HB.out.setCell (by simp) _), hmx0, hmx, HO', HE'⟩
        case measure => simp [intOf]; omega
      · have hkl : k = c.roots.length := by omega
        have he := HE.out
        rw [hkl, List.drop_length] at he
        have hme : m = most 0 c.roots := he
        have hsn := HSC.out.2.1
        rw [← hme] at hsn
        have HSN := Lib.hid hsn
        have q0' := (HB.out.cell (p := ⟨w5.heap.size, 0, none⟩) q2).trans q0
        have q1' := (HB.out.cell (p := ⟨w5.heap.size, 1, none⟩) q2).trans q1
        clear he hme hsn q0 q1 HO HE hkl
        go_wp2_with fail
        go_loopw [8] (fun i wr => ∃ (k : Nat) (m : Int), k ≤ c.nodes.length ∧ i = .int .i64 k ∧ Hid (Blk wr w7.heap.size 3 #[.int .i64 m]) ∧ Hid (Below w7.heap.size w7 wr) ∧ 0 ≤ m ∧ m ≤ 1000 ∧ Hid (scanN k m (c.nodes.drop k))) (fun i _ => c.nodes.length - (intOf i).toNat)
        case atStart => exact ⟨0, m, Nat.zero_le _, rfl, HM, HB, hm0, hm1, HSN⟩
        case round =>
          clear HM HB HSN hm0 hm1 q0' q1'
          obtain ⟨wq, hwq⟩ : ∃ wq, wq = wr := ⟨_, rfl⟩
          obtain ⟨k, m, hk, rfl, HM, HB, hm0, hm1, HSN⟩ := hrel
          subst hwq
          have q0' := (HB.out.cell (p := ⟨w5.heap.size, 0, none⟩) q2).trans Q0.out
          have q1' := (HB.out.cell (p := ⟨w5.heap.size, 1, none⟩) q2).trans Q1.out
          have m0 := HM.out.cell 0
          have m2 := HM.out.lt
          simp only [List.getElem?_toArray, List.getElem?_cons_zero, List.getElem?_cons_succ] at m0
          have q2' : w5.heap.size < wq.heap.size := by have := HB.out.size; omega
          by_cases hlt : k < c.nodes.length
          · obtain ⟨dd, As, cs, Bs, ds, rfl, d2', d3, i1, i2⟩ := nds_at HD7.out k hlt
            have hx := HCN.out c.nodes[k] (List.getElem_mem hlt)
            have d2 := (HB.out.cell (cell_lt d2')).trans d2'
            have hs := HSN.out
            rw [drop_get hlt] at hs
            generalize c.nodes[k] = x at d2 d2' d3 i1 i2 hx hs
            have hs1 := hs.1
            have HSO := Lib.hid hs.2.1
            have HSR := Lib.hid hs.2.2
            have HI := Lib.hid i1
            have hxl := hx.1
            have HXS := Lib.hid hx.2.2.1
            have hge : decide ((k : Int) ≥ m) = false := decide_eq_false (by omega)
            clear i1 i2 hx hs d3 d2'
            go_wp2_with fail
            go_loopw [65] (fun i wr => ∃ (j : Nat) (n : Int), j ≤ x.slots.length ∧ i = .int .i64 j ∧ Hid (Blk wr w7.heap.size 3 #[.int .i64 n]) ∧ Hid (Below w7.heap.size w7 wr) ∧ 0 ≤ n ∧ n ≤ 1000 ∧ Hid (stepOk n (x.slots.drop j)) ∧ Hid (most n (x.slots.drop j) = most m x.slots)) (fun i _ => x.slots.length - (intOf i).toNat)
            case atStart => exact ⟨0, m, Nat.zero_le _, rfl, HM, HB, hm0, hm1, HSO, Lib.hid rfl⟩
            case round =>
              obtain ⟨j, n, hj, rfl, HMi, HBi, hn0, hn1, HOi, HEi⟩ := hrel
              by_cases hjl : j < x.slots.length
              · have hi := HI.out.below HBi.out
                obtain ⟨ad, rfl, d1⟩ := hi.at_ j hjl
                have ho := HOi.out
                have he := HEi.out
                have hr := HXS.out x.slots[j] (List.getElem_mem hjl)
                rw [drop_get hjl] at ho he
                generalize x.slots[j] = v at d1 ho he hr
                obtain ⟨hr0, hr1⟩ := hr
                have hv1 := ho.1
                have HO' := Lib.hid ho.2
                have HE' := Lib.hid he
                have KN := Lib.hid (next_yes v n w7.heap.size wr HMi.out hn0 (by omega) hv1 hr0)
                have hmx : max n v ≤ 1000 := by omega
                have hmx0 : 0 ≤ max n v := by omega
                clear ho he hr1 hi
                go_wp2_with fail
                refine KN.out.mono ?_
                rintro e w8 ⟨rfl, rfl⟩
                go_wp2_with fail
                go_roundw
                case rel =>
                  refine ⟨j + 1, max n v, by omega, by go_num, ?_, Lib.hid (HBi.out.setCell (by simp) _), hmx0, hmx, HO', HE'⟩
                  show Blk _ _ _ _
                  exact HMi.out.set_ 0 _
                case measure => simp [intOf]; omega
              · have hjl' : j = x.slots.length := by omega
                have he := HEi.out
                rw [hjl', List.drop_length] at he
                have hme : n = most m x.slots := he
                have hsr := HSR.out
                rw [← hme] at hsr
                have HSR' := Lib.hid hsr
                clear he hme hsr hjl' HEi HOi
                go_wp2_with fail
                go_roundw
                case rel => exact ⟨k + 1, n, by omega, by go_num, HMi, HBi, hn0, hn1, HSR'⟩
                case measure => simp [intOf]; omega
          · have hkl : k = c.nodes.length := by omega
            have hs := HSN.out
            rw [hkl, List.drop_length] at hs
            have hme : (m == (c.nodes.length : Int)) = true := beq_iff_eq.mpr hs
            have HB8 := Lib.hid (below_then HB7.out HB.out)
            have HME := Lib.hid hme
            clear hs hme
            go_wp2_with fail
            go_ret
            refine ⟨?_, HB8.out⟩
            exact ret_bool HME.out

theorem fewer_walk (A D : Option Addr) (g : Gr) (a d : Nat) (w : World) (ht : Tab w) (hA : Ints w A g.roots) (hD : Nodes w D g.nodes) :
    Calls Tryd.prog 6 #[.agg #[.slice A g.roots.length a, .slice D g.nodes.length d]] w fun e w' => e = .returned (.bool true) ∧ Below w.heap.size w w' := fewer_any A D g a d w hA hD ht

end Go.Proofs.YtbelbhdhcgpcpaaDoor.Gr
