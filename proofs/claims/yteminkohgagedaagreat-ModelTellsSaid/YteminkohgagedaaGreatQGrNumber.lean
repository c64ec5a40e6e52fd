/- graph.Number. -/
import Derived.Test.YteminkohgagedaaGreatQGrNum
namespace Go.Proofs.YteminkohgagedaaGreat.Gr
open Go.RowKit Go.Proofs.YteminkohgagedaaGreat.Base
set_option linter.unusedVariables false
set_option linter.unusedSimpArgs false

set_option maxHeartbeats 4000000 in
set_option maxRecDepth 100000 in
theorem number_own (A D : Option Addr) (g : Gr) (c d : Nat) (w : World) (hr1 : g.roots.length ≤ 64) (hr2 : g.nodes.length ≤ 100000) (hr3 : named g.roots g.nodes.length = true) (hr4 : ∀ x ∈ g.nodes, ndOk x g.nodes.length = true) (hA : Ints w A g.roots) (hD : Nodes w D g.nodes) :
    Calls Tryz.prog 29 #[.agg #[.slice A g.roots.length c, .slice D g.nodes.length d]] w fun e w' => ∃ v, e = .returned v ∧ (Firm w.heap.size w' v (number g) ∧ OwnG w.heap.size w' v (number g)) ∧ Below w.heap.size w w' := by
  obtain ⟨i0, hi0, hz0, hz1, hz2⟩ := info_parts1 nodeInfo
  have hmk := make_ints (g.nodes.length + 1) (by omega)
  rw [show ((g.nodes.length + 1 : Nat) : Int) = (g.nodes.length : Int) + 1 by omega] at hmk
  have HR1 := Lib.hid hr1
  have HR3 := Lib.hid hr3
  have HR4 := Lib.hid hr4
  have HA := Lib.hid hA
  have HD := Lib.hid hD
  have h4 := Below.trans (Below.trans (below_1 w (.cells #[.slice A g.roots.length c, .slice D g.nodes.length d] 25))
    ((below_1 _ (.cells #[.slice none 0 0, .slice none 0 0] 25)).mono (by simp)))
    (Below.trans ((below_1 _ (.cells (List.replicate (g.nodes.length + 1) (Value.int .i64 0)).toArray 3)).mono (by simp; omega))
    ((below_1 _ (.cells #[.slice (some ⟨w.heap.size + 2, 0, none⟩) (g.nodes.length + 1) (g.nodes.length + 1), .slice none 0 0] 115)).mono (by simp; omega)))
  have k1 := meet_any w w.heap.size (w.heap.size + 3) (w.heap.size + 2) g.nodes.length (.slice none 0 0) [] g.roots A c _ hr3 (by omega) (ord_nil _) hA h4 (Nat.le_refl _) (by omega) (by omega)
    ⟨by have := Blk.new (((w.alloc (.cells #[.slice A g.roots.length c, .slice D g.nodes.length d] 25)).alloc (.cells #[.slice none 0 0, .slice none 0 0] 25)).alloc (.cells (List.replicate (g.nodes.length + 1) (Value.int .i64 0)).toArray 3)) 115 #[.slice (some ⟨w.heap.size + 2, 0, none⟩) (g.nodes.length + 1) (g.nodes.length + 1), .slice none 0 0]; simpa using this,
     by have := (Blk.new ((w.alloc (.cells #[.slice A g.roots.length c, .slice D g.nodes.length d] 25)).alloc (.cells #[.slice none 0 0, .slice none 0 0] 25)) 3 (List.replicate (g.nodes.length + 1) (Value.int .i64 0)).toArray).alloc (.cells #[.slice (some ⟨w.heap.size + 2, 0, none⟩) (g.nodes.length + 1) (g.nodes.length + 1), .slice none 0 0] 115); rw [places_nil]; simpa using this,
     own_nil _ _ _ _, by simp [Value.ownBlock]⟩
  have K1 := Lib.hid k1
  have H4 := Lib.hid h4
  clear hr1 hr3 hr4 hA hD k1 h4
  go_enter Tryz.func29, Tryz.ntmps29
  go_wp2_with fail
  refine K1.out.mono ?_
  rintro e w1 ⟨vO, rfl, hK, hM, hT, hv⟩
  have hB1 : Below w.heap.size w w1 := mod_below H4.out hT H4.out.size (by
    rintro b hb (h | h | h)
    · omega
    · omega
    · simp [Value.ownBlock] at h)
  have hG1 : Blk w1 w.heap.size 25 #[.slice A g.roots.length c, .slice D g.nodes.length d] :=
    Blk.mod ((((Blk.new w _ _).alloc _).alloc _).alloc _) hT (by
      rintro (h | h | h)
      · omega
      · omega
      · simp [Value.ownBlock] at h)
  have hT1 : Blk w1 (w.heap.size + 1) 25 #[.slice none 0 0, .slice none 0 0] := by
    have := (((Blk.new (w.alloc (.cells #[.slice A g.roots.length c, .slice D g.nodes.length d] 25)) 25 #[.slice none 0 0, .slice none 0 0]).alloc (.cells (List.replicate (g.nodes.length + 1) (Value.int .i64 0)).toArray 3)).alloc
      (.cells #[.slice (some ⟨w.heap.size + 2, 0, none⟩) (g.nodes.length + 1) (g.nodes.length + 1), .slice none 0 0] 115)).mod hT (by
      rintro (h | h | h)
      · simp at h
      · simp at h
      · simp [Value.ownBlock] at h)
    simpa using this
  simp only [World.size_alloc, Nat.add_assoc, Nat.reduceAdd] at hK hv
  have hv' : vO.ownBlock = none ∨ ∃ k, vO.ownBlock = some k ∧ w.heap.size + 4 < k := hv
  have hzk := hK.lt
  have HK := Lib.hid hK
  have HM := Lib.hid hM
  have HV := Lib.hid hv'
  have HB1 := Lib.hid hB1
  have HG1 := Lib.hid hG1
  have HT1 := Lib.hid hT1
  clear hK hM hv hv' hB1 hG1 hT1 hT
  obtain ⟨rs, hrs⟩ : ∃ rs, (meet [] g.roots).2 = rs := ⟨_, rfl⟩
  obtain ⟨o0, ho0⟩ : ∃ o0, (meet [] g.roots).1 = o0 := ⟨_, rfl⟩
  have hrl : g.roots.length = rs.length := by rw [← hrs, meet_len]
  have HRS := Lib.hid hrs
  have HO0 := Lib.hid ho0
  have HRL := Lib.hid hrl
  clear hrs ho0 hrl
  go_wp2
  go_loopw [5] (fun i wr => ∃ (k : Nat) (vO vN : Value) (o : List Int) (ns : List Nd) (xs : List Value), k ≤ g.nodes.length ∧ i = .int .i64 k ∧
    Hid (Num w wr w.heap.size (w.heap.size + 3) (w.heap.size + 2) w1.heap.size (w.heap.size + 4) (w.heap.size + 4) g.nodes.length vO vN o rs ns xs) ∧
    Hid (Blk wr w.heap.size 25 #[.slice A g.roots.length c, .slice D g.nodes.length d]) ∧ Hid (Blk wr (w.heap.size + 1) 25 #[.slice none 0 0, .slice none 0 0]) ∧
    Hid (ns.length = k) ∧ Hid (k ≤ o.length) ∧ Hid (canonGo g (g.nodes.length + 1 - k) k o ns = (number g).nodes)) (fun i _ => g.nodes.length - (intOf i).toNat)
  case atStart =>
    have hM := HM.out
    have hK := HK.out
    rw [HO0.out] at hM
    rw [HRS.out] at hK
    refine ⟨0, vO, .slice none 0 0, o0, [], [], Nat.zero_le _, rfl, ?_, HG1.out.alloc _, HT1.out.alloc _, rfl, Nat.zero_le _, ?_⟩
    · refine ⟨⟨hM.blk.alloc _, hM.plc.alloc _, own_below hM.own (below_1 _ _), hM.apart⟩, ?_, hK.alloc _, ?_, own_nil _ _ _ _, fun j h => absurd h (by simp), ?_, Nat.le_refl _, by omega, by omega, HB1.out.size, ?_⟩
      · have e := HRL.out
        rw [← e]
        exact Blk.new _ _ _
      · refine ⟨Nat.le_refl _, by simp; omega, by omega, by omega, by omega, ?_, by simp [Value.ownBlock]⟩
        intro e
        rcases HV.out with h | ⟨k, h, hk⟩
        · rw [h] at e; cases e
        · rw [h] at e; injection e with e; omega
      · exact HB1.out.trans ((below_1 _ _).mono HB1.out.size)
      · rw [← HO0.out]; exact ord_meet (ord_nil _) HR3.out
    · show _ = _
      rw [← HO0.out]
      rfl
  case round =>
    obtain ⟨k, vO', vN, o, ns, xs, hk, rfl, HN, HG, HT, HL, HKO, HC⟩ := hrel
    have hM := HN.out.met
    have c0 := hM.blk.cell 1
    simp only [List.getElem?_toArray, List.getElem?_cons_zero, List.getElem?_cons_succ] at c0
    obtain ⟨AO, cO, rfl, hcO⟩ := own_form hM.own
    have hown0 := Lib.hid hM.own
    have hol := ord_len HN.out.ord
    have HM2 := Lib.hid hM
    clear hM
    obtain ⟨AN, cN, rfl, hcN⟩ := own_form HN.out.own
    have c1 := HN.out.out.cell 0
    have c2 := HN.out.out.cell 1
    have c3 := HT.out.cell 0
    have c4 := HT.out.cell 1
    have f3 := HT.out.frozen 0
    have f4 := HT.out.frozen 1
    have zb := HN.out.out.lt
    have zt := HT.out.lt
    simp only [List.getElem?_toArray, List.getElem?_cons_zero, List.getElem?_cons_succ] at c1 c2 c3 c4
    by_cases hlt : k < o.length
    · obtain ⟨adO, rfl, d1⟩ := (Ints.of_own hown0.out (by omega)).at_ k hlt
      have ha := HN.out.ord.2 o[k] (List.getElem_mem hlt)
      have hnd := nodeAt_eq g o[k] ha.1 ha.2
      obtain ⟨dd, As, cs, Bs, ds, rfl, d2', d3', i1, i2⟩ := nds_at HD.out (o[k] - 1).toNat (by omega)
      have d2 := (HN.out.below.cell (cell_lt d2')).trans d2'
      have d3 := (HN.out.below.cell (cell_lt d3')).trans d3'
      clear d2' d3'
      rw [← hnd] at d2 d3 i1 i2
      have HX := Lib.hid (HR4.out (nodeAt g o[k]) (by rw [hnd]; exact List.getElem_mem _))
      have HI1 := Lib.hid i1
      have HI2 := Lib.hid i2
      have HCS := Lib.hid (canonGo_step g (g.nodes.length - k) k o ns hlt)
      generalize nodeAt g o[k] = x at d2 d3 HX HI1 HI2 HCS
      generalize o[k] = a at d1 ha d2 d3
      have e1 : IntKind.i64.wrap (a - 1) = a - 1 := IntWalk.i64_in _ (by omega)
      have e2 : wrap64 (a - 1) = a - 1 := by unfold wrap64; omega
      have e3 : (0 : Int) ≤ a - 1 := by omega
      have e4 : a - 1 < (g.nodes.length : Int) := by omega
      have g1 := HG.out.cell 1
      simp only [List.getElem?_toArray, List.getElem?_cons_zero, List.getElem?_cons_succ] at g1
      have zg := HG.out.lt
      have e5 : 1 ≤ a := ha.1
      have e6 : a < (g.nodes.length : Int) + 1 := by omega
      rw [show (a - 1).toNat = a.toNat - 1 by omega] at d2 d3
      have z1 := cell_lt d1
      have z2 := cell_lt d2
      have z3 := cell_lt d3
      have z4 := cell_lt c0
      clear hnd i1 i2 ha c3 c4 f3 f4
      go_wp2
      go_region
      have hB6 : Below wr.heap.size wr (wr.alloc (.cells #[.slice As x.slots.length cs, .slice Bs x.words.length ds] 55)).drew := ⟨rfl, rfl, rfl, by simp, (below_1 wr _).block⟩
      have hx6 : Blk (wr.alloc (.cells #[.slice As x.slots.length cs, .slice Bs x.words.length ds] 55)).drew wr.heap.size 55 #[.slice As x.slots.length cs, .slice Bs x.words.length ds] := (Blk.new wr _ _).drewN 1
      generalize hW6 : (wr.alloc (.cells #[.slice As x.slots.length cs, .slice Bs x.words.length ds] 55)).drew = W6 at hB6 hx6 ⊢
      have hM6 : Met W6 w.heap.size (w.heap.size + 3) (w.heap.size + 2) g.nodes.length (.slice (some adO) o.length cO) o := HM2.out.keep hB6
      have q1 := (HN.out.out.below hB6 zb).cell 1
      have q2 := hx6.cell 0
      have q3 := hx6.cell 1
      have q4 := (HN.out.out.below hB6 zb).frozen 1
      simp only [List.getElem?_toArray, List.getElem?_cons_zero, List.getElem?_cons_succ] at q1 q2 q3
      have HM6 := Lib.hid hM6
      have HX6 := Lib.hid hx6
      have HB6 := Lib.hid hB6
      have HW6 := Lib.hid hW6
      have HBW := Lib.hid (show Below w.heap.size w W6 from HN.out.below.trans (hB6.mono HN.out.below.size))
      clear hM6 hx6 hB6 hW6 d1 d2 d3 z1 z2 z3 z4 c0 c1 c2 g1 zg
      have hnb : ¬ Turns (w.heap.size + 3) (w.heap.size + 2) (.slice (some adO) o.length cO) w1.heap.size := by
        rintro (h | h | h)
        · exact Blk.ne_ HN.out.out HM2.out.blk (by decide) h
        · exact Blk.ne_ HN.out.out HM2.out.plc (by decide) h
        · exact own_blk_ne HM2.out.own HN.out.out (by decide) h
      have hnx : ¬ Turns (w.heap.size + 3) (w.heap.size + 2) (.slice (some adO) o.length cO) wr.heap.size := by
        rintro (h | h | h)
        · have := HM2.out.blk.lt; omega
        · have := HM2.out.plc.lt; omega
        · have := (own_block HM2.out.own _ h).2; omega
      have hno : ∀ k, (Value.slice AN ns.length cN).ownBlock = some k → ¬ Turns (w.heap.size + 3) (w.heap.size + 2) (.slice (some adO) o.length cO) k := by
        rintro k hk (rfl | rfl | h)
        · exact own_blk_ne HN.out.own HM2.out.blk (by decide) hk
        · exact own_blk_ne HN.out.own HM2.out.plc (by decide) hk
        · exact own_own_ne HN.out.own HM2.out.own (by decide) k hk h
      have HNO := Lib.hid hno
      clear hno
      have HNN := Lib.hid (own_blk_ne HN.out.own HN.out.out (by decide))
      have HNB := Lib.hid hnb
      have HNX := Lib.hid hnx
      have KM : ∀ W', Like W6 W' → Calls Tryz.prog 78 #[.pointer (some ⟨w.heap.size + 3, 0, none⟩), .slice As x.slots.length cs] W' fun e w2 => ∃ vO2, e = .returned (.slice (some ⟨W6.heap.size, 0, none⟩) x.slots.length x.slots.length) ∧
          w2.cell? ⟨w1.heap.size, 1, none⟩ = some (.slice AN ns.length cN) ∧ w2.cell? ⟨wr.heap.size, 0, none⟩ = some (.slice As x.slots.length cs) ∧ w2.cell? ⟨wr.heap.size, 1, none⟩ = some (.slice Bs x.words.length ds) ∧
          w2.frozen? ⟨w1.heap.size, 1, none⟩ = false ∧ Hid (Blk w2 W6.heap.size 3 (enc ic (meet o x.slots).2).toArray) ∧ Hid (Met w2 w.heap.size (w.heap.size + 3) (w.heap.size + 2) g.nodes.length vO2 (meet o x.slots).1) ∧ Hid (Mod (Turns (w.heap.size + 3) (w.heap.size + 2) (.slice (some adO) o.length cO)) W6 w2) ∧
            Hid (vO2.ownBlock = (Value.slice (some adO) o.length cO).ownBlock ∨ ∃ k, vO2.ownBlock = some k ∧ W6.heap.size < k) ∧ Hid (Below w.heap.size w w2) ∧ Hid (Blk w2 w1.heap.size 25 #[.slice (some ⟨w.heap.size + 4, 0, none⟩) rs.length rs.length, .slice AN ns.length cN]) ∧ Hid (w2.ownsRow w.heap.size 55 2 (.slice AN ns.length cN) ns.length xs) := by
        intro W' hl
        have hM' : Met W' w.heap.size (w.heap.size + 3) (w.heap.size + 2) g.nodes.length (.slice (some adO) o.length cO) o := ⟨Blk.like HM6.out.blk hl, Blk.like HM6.out.plc hl, own_like HM6.out.own hl, HM6.out.apart⟩
        have hB' : Below w.heap.size w W' := ⟨hl.os.trans HBW.out.os, hl.tape.trans HBW.out.tape, hl.output.trans HBW.out.output, by rw [hl.heap]; exact HBW.out.size, fun i hi => by rw [hl.heap]; exact HBW.out.block i hi⟩
        refine (meet_any w w.heap.size (w.heap.size + 3) (w.heap.size + 2) g.nodes.length _ o x.slots As cs W' (ndOk_parts HX.out).2.2.2 (by omega) HN.out.ord HI1.out hB' (Nat.le_refl _) (by omega) (by omega) hM').mono ?_
        rintro e w2 ⟨vO2, rfl, h1, h2, h3, h4⟩
        have h3' : Mod (Turns (w.heap.size + 3) (w.heap.size + 2) (.slice (some adO) o.length cO)) W6 w2 :=
          ⟨h3.os.trans hl.os, h3.tape.trans hl.tape, h3.output.trans hl.output, by have := h3.size; rw [hl.heap] at this; exact this, fun i hi hn => by rw [h3.block i (by rw [hl.heap]; exact hi) hn, hl.heap]⟩
        rw [hl.heap] at h1 h4
        have j1 := ((HN.out.out.below HB6.out zb).mod h3' HNB.out).cell 1
        have j2 := (HX6.out.mod h3' HNX.out).cell 0
        have j3 := (HX6.out.mod h3' HNX.out).cell 1
        simp only [List.getElem?_toArray, List.getElem?_cons_zero, List.getElem?_cons_succ] at j1 j2 j3
        refine ⟨vO2, by rw [hl.heap], j1, j2, j3, ((HN.out.out.below HB6.out zb).mod h3' HNB.out).frozen 1, h1, h2, h3', h4, mod_below HBW.out h3' HBW.out.size (turns_far HM6.out (by omega) (by omega)), (HN.out.out.below HB6.out zb).mod h3' HNB.out, own_mod (own_below HN.out.own HB6.out) h3' HNO.out⟩
      have HKM := Lib.hid KM
      clear KM hnb hnx
      have HI2w : Ints w Bs x.words := HI2.out
      have HI2W := Lib.hid HI2w
      clear HI2w
      have hns : ns.length ≤ 100000 := by have := HL.out; omega
      have HKC := Lib.hid (num_clone (w := w) (b := w1.heap.size) (base := w.heap.size) (v := .slice AN ns.length cN) (vN := .slice (some ⟨w.heap.size + 4, 0, none⟩) rs.length rs.length) (xs := xs) (n := ns.length) Bs x.words ds HI2W.out)
      have hsw : w.heap.size ≤ w1.heap.size := HB1.out.size
      have hkp : ∀ w5, Mod (fun b => b = w.heap.size + 3 ∨ b = w.heap.size + 2 ∨ b = w1.heap.size ∨ (Value.slice (some adO) o.length cO).ownBlock = some b ∨ (Value.slice AN ns.length cN).ownBlock = some b) wr w5 →
          Blk w5 w.heap.size 25 #[.slice A g.roots.length c, .slice (some dd) g.nodes.length d] ∧ Blk w5 (w.heap.size + 1) 25 #[.slice none 0 0, .slice none 0 0] := fun w5 hm => by
        have e1 := own_blk_ne HN.out.met.own HG.out (by decide)
        have e2 := own_blk_ne HN.out.own HG.out (by decide)
        have e3 := own_blk_ne HN.out.met.own HT.out (by decide)
        have e4 := own_blk_ne HN.out.own HT.out (by decide)
        refine ⟨HG.out.mod hm ?_, HT.out.mod hm ?_⟩
        · rintro (h | h | h | h | h)
          · omega
          · omega
          · omega
          · exact e1 h
          · exact e2 h
        · rintro (h | h | h | h | h)
          · omega
          · omega
          · omega
          · exact e3 h
          · exact e4 h
      have HKP := Lib.hid hkp
      clear hkp
      go_wp2_with fail
      go_region_law (first
        | (refine step_append_any _ rfl _ _ _ (by rfl) w.heap.size 55 i0 _ 2 48 Tryz.underlying23 hi0 hz0 hz1 hz2 rfl (by omega) (.slice AN ns.length cN) ns.length xs (by rfl) (num_ahead hn3.out _ (by (first | exact like_self _ | exact like_drew (like_self _) | exact like_drew (like_drew (like_self _)) | exact like_drew (like_drew (like_drew (like_self _)))))) _ 1 1 _ (by rfl) (Reads.new _ _ rfl) (by simp [Value.oneCell']) (fun e => by cases e) (by simp only [maxLen]; omega) (by omega) (by simp; omega) ?_; intro v4 w4 hown4 hg4 hat4; obtain ⟨A4, cap4, rfl, hc4⟩ := own_form hown4; obtain ⟨r5, r6, r7⟩ := num_cell hb3.out _ (by (first | exact like_self _ | exact like_drew (like_self _) | exact like_drew (like_drew (like_self _)) | exact like_drew (like_drew (like_drew (like_self _))))) hg4 HNN.out; have HRR := Lib.hid (num_round HN.out HB6.out x HX.out hb2.out hm2.out ht2.out hv2.out hownC.out hbC.out _ (by (first | exact like_self _ | exact like_drew (like_self _) | exact like_drew (like_drew (like_self _)) | exact like_drew (like_drew (like_drew (like_self _))))) hg4 hown4 hat4); clear hown4 hg4 hat4)
        | (refine step_append_any _ rfl _ _ _ (by rfl) w.heap.size 55 i0 _ 2 48 Tryz.underlying23 hi0 hz0 hz1 hz2 rfl (by omega) (.slice AN ns.length cN) ns.length xs (by rfl) (num_ahead hn3.out _ (by (first | exact like_self _ | exact like_drew (like_self _) | exact like_drew (like_drew (like_self _)) | exact like_drew (like_drew (like_drew (like_self _)))))) _ 1 1 _ (by rfl) (reads_drew (Reads.new _ _ rfl)) (by simp [Value.oneCell']) (fun e => by cases e) (by simp only [maxLen]; omega) (by omega) (by simp; omega) ?_; intro v4 w4 hown4 hg4 hat4; obtain ⟨A4, cap4, rfl, hc4⟩ := own_form hown4; obtain ⟨r5, r6, r7⟩ := num_cell hb3.out _ (by (first | exact like_self _ | exact like_drew (like_self _) | exact like_drew (like_drew (like_self _)) | exact like_drew (like_drew (like_drew (like_self _))))) hg4 HNN.out; have HRR := Lib.hid (num_round HN.out HB6.out x HX.out hb2.out hm2.out ht2.out hv2.out hownC.out hbC.out _ (by (first | exact like_self _ | exact like_drew (like_self _) | exact like_drew (like_drew (like_self _)) | exact like_drew (like_drew (like_drew (like_self _))))) hg4 hown4 hat4); clear hown4 hg4 hat4)
        | ((try go_simp)
           go_at_call 78
           refine (HKM.out _ ?_).mono ?_
           (first | exact like_self _ | exact like_drew (like_self _) | exact like_drew (like_drew (like_self _)) | exact like_drew (like_drew (like_drew (like_self _))))
           rintro e w2 ⟨vO2, rfl, r1, r2, r3, r4, hb2, hm2, ht2, hv2, hB2, ho2, hn2⟩)
        | ((try go_simp)
           go_at_call 75
           refine (HKC.out w2 _ ?_ hB2.out ho2.out hn2.out).mono ?_
           (first | exact like_self _ | exact like_drew (like_self _) | exact like_drew (like_drew (like_self _)) | exact like_drew (like_drew (like_drew (like_self _))))
           rintro e w3 ⟨AC, cC, rfl, s1, s2, s3, s4, hownC, hbC, hb3, hn3⟩))
      all_goals
        go_wp2
        go_roundw
        case rel =>
          refine ⟨k + 1, vO2, .slice A4 (ns.length + 1) cap4, (meet o x.slots).1, ns ++ [⟨(meet o x.slots).2, x.words⟩], xs ++ [.slice (some ⟨W6.heap.size, 0, none⟩) x.slots.length x.slots.length, .slice AC x.words.length cC], by omega, by go_num, Lib.hid HRR.out.1, Lib.hid (HKP.out _ HRR.out.2).1, Lib.hid (HKP.out _ HRR.out.2).2, ?_, ?_, ?_⟩
          · show _ = _
            rw [List.length_append, HL.out]; rfl
          · show _ ≤ _
            have := meet_grow o x.slots
            omega
          · show _ = _
            have h1 := HC.out
            rw [show g.nodes.length + 1 - k = g.nodes.length - k + 1 by omega, HCS.out] at h1
            rw [show g.nodes.length + 1 - (k + 1) = g.nodes.length - k by omega]
            exact h1
        case measure => simp [intOf]; omega
    · go_wp2
      (try simp only [Exit.inBlock, Exit.then])
      have hB2 := (HT.out.set_ 0 (.slice (some ⟨w.heap.size + 4, 0, none⟩) rs.length rs.length)).set_ 1 (.slice AN ns.length cN)
      refine bodyPost_ret (v := .agg #[.slice (some ⟨w.heap.size + 4, 0, none⟩) rs.length rs.length, .slice AN ns.length cN]) (results_cell_row rfl _ _ (w.heap.size + 1) 25 _ (0, 0) _ rfl hB2 Tryz.underlying25 rfl graphSize) rfl ?_
      have hm : Mod (fun k => k = w.heap.size + 1) wr ((wr.setCell ⟨w.heap.size + 1, 0, none⟩ (.slice (some ⟨w.heap.size + 4, 0, none⟩) rs.length rs.length)).setCell ⟨w.heap.size + 1, 1, none⟩ (.slice AN ns.length cN)) :=
        mod_set' (S := fun k => k = w.heap.size + 1) (mod_set' (S := fun k => k = w.heap.size + 1) (Mod.refl _ _) rfl _) rfl _
      refine ⟨_, rfl, ?_, mod_below HN.out.below hm HN.out.below.size (by omega)⟩
      have hC := HC.out
      rw [canonGo_stop _ _ _ _ _ hlt] at hC
      have hn : number g = ⟨rs, ns⟩ := by
        rw [← HRS.out, hC]; rfl
      rw [hn]
      exact ⟨num_firm HN.out hm (by omega) (by have := HL.out; omega) (by have := HRL.out; have := HR1.out; omega) (own_blk_ne HN.out.own HT.out (by decide)),
        num_own HN.out hm (by omega) (by have := HRL.out; have := HR1.out; omega) (own_blk_ne HN.out.own HT.out (by decide))⟩
theorem number_wide (A D : Option Addr) (g : Gr) (c d : Nat) (w : World) (hr1 : g.roots.length ≤ 64) (hr2 : g.nodes.length ≤ 100000) (hr3 : named g.roots g.nodes.length = true) (hr4 : ∀ x ∈ g.nodes, ndOk x g.nodes.length = true) (hA : Ints w A g.roots) (hD : Nodes w D g.nodes) :
    Calls Tryz.prog 29 #[.agg #[.slice A g.roots.length c, .slice D g.nodes.length d]] w fun e w' => ∃ v, e = .returned v ∧ Firm w.heap.size w' v (number g) ∧ Below w.heap.size w w' := by
  refine (number_own A D g c d w hr1 hr2 hr3 hr4 hA hD).mono ?_
  rintro e w' ⟨v, he, ⟨hf, _⟩, hb⟩
  exact ⟨v, he, hf, hb⟩
theorem number_any (A D : Option Addr) (g : Gr) (c d : Nat) (w : World) (hr : right g = true) (hA : Ints w A g.roots) (hD : Nodes w D g.nodes) :
    Calls Tryz.prog 29 #[.agg #[.slice A g.roots.length c, .slice D g.nodes.length d]] w fun e w' => ∃ v, e = .returned v ∧ Firm w.heap.size w' v (number g) ∧ Below w.heap.size w w' := by
  obtain ⟨hr1, hr2, hr3, hr4⟩ := right_parts hr
  exact number_wide A D g c d w (by omega) (by omega) hr3 hr4 hA hD

end Go.Proofs.YteminkohgagedaaGreat.Gr
