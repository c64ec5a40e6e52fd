/- The statement on parts: for every input its function answers true. -/
import Derived.Test.YteminkohgagedaaMoPartsL
import Derived.Test.YteminkohgagedaaGrEightR
import Derived.Test.YteminkohgagedaaGrRef
import Derived.Test.YteminkohgagedaaGrRefCanonW
import Derived.Test.YteminkohgagedaaMoTop
namespace Go.Proofs.Yteminkohgagedaa.Mo
open Go.RowKit Go.Proofs.Yteminkohgagedaa.Base Go.Proofs.Yteminkohgagedaa.Gr Go.Proofs.Yteminkohgagedaa.Ver
set_option linter.unusedVariables false
set_option linter.unusedSimpArgs false

set_option maxRecDepth 100000 in
set_option maxHeartbeats 4000000 in
theorem result_same (e a f : Int) (A B : Option Addr) (l : List Int) (c d : Nat) (w : World) (hA : Ints w A l) (hB : Ints w B l) (hl : l.length ≤ 1000) :
    Calls Try.prog 17 #[.agg #[.int .i64 e, .int .i64 a, .int .i64 f, .slice A l.length c], .agg #[.int .i64 e, .int .i64 a, .int .i64 f, .slice B l.length d]] w fun en w' => en = .returned (.bool true) ∧ Below w.heap.size w w' := by
  have hb := below_then (below_1 w (.cells #[.int .i64 e, .int .i64 a, .int .i64 f, .slice A l.length c] 32)) (below_1 _ (.cells #[.int .i64 e, .int .i64 a, .int .i64 f, .slice B l.length d] 32))
  have HB := Lib.hid hb
  have K := same_any A B l l c d _ (hA.below hb) (hB.below hb) (by omega)
  rw [decide_eq_true rfl] at K
  have HK := Lib.hid K
  clear hA hB hb K
  go_enter Try.func17, Try.ntmps17
  go_wp2_with (first | (go_at_call 21; refine HK.out.mono ?_; rintro e w8 ⟨rfl, hb8⟩))
  go_ret
  exact ⟨rfl, below_then HB.out hb8⟩
theorem runM_outs2 {g : Gr} (hg : right g = true) (F : Nat) (l : List Ins) : (runM g F l).outs.length ≤ 1000 := by
  rcases chk_zero l with hc | hc
  · have er : (runM g F l).outs = (exec l F (start g g)).σ.outs := by rw [runM, if_pos hg, if_pos hc]
    rw [er]
    exact (exec_well (chk_ok hc).2.2.1 F 1000 (start g g) (start_well hg)).outs
  · have er : (runM g F l).outs = [] := by rw [runM, if_pos hg, if_neg (by omega)]
    rw [er]; simp
def hasCommit (l : List Ins) : Bool := l.any fun x => x.op == 14
theorem hasCommit_take (l : List Ins) (k : Nat) (h : k < l.length) : hasCommit (l.take (k + 1)) = (hasCommit (l.take k) || l[k].op == 14) := by
  rw [List.take_succ_eq_append_getElem h, hasCommit, List.any_append]
  simp [hasCommit]

set_option maxRecDepth 100000 in
set_option maxHeartbeats 8000000 in
theorem parts_walk (A D : Option Addr) (g : Gr) (a d : Nat) (F : Int) (AL : Option Addr) (l : List Ins) (cl : Nat) (w : World) (hA : Ints w A g.roots) (hD : Nodes w D g.nodes) (hL : Arr w Ins.cells 4 AL l) (hcl : l.length ≤ cl) :
    Calls Try.prog 3 #[.agg #[.slice A g.roots.length a, .slice D g.nodes.length d], .int .i64 F, .slice AL l.length cl] w fun e w' => e = .returned (.bool true) ∧ Below w.heap.size w w' := by
  have HA := Lib.hid hA
  have HD := Lib.hid hD
  have HL := Lib.hid hL
  have HG := Lib.hid (Blk.new w 25 #[.slice A g.roots.length a, .slice D g.nodes.length d])
  have HB := Lib.hid (below_1 w (.cells #[.slice A g.roots.length a, .slice D g.nodes.length d] 25))
  clear hA hD hL
  go_enter Try.func3, Try.ntmps3
  go_wp2_with fail
  refine (light_any A D g a d _ (HA.out.below HB.out) (HD.out.below HB.out)).mono ?_
  rintro e w1 ⟨⟨b, rfl, hb⟩, hb1⟩
  have HB1 := Lib.hid (below_then HB.out hb1)
  have HG1 := Lib.hid (HG.out.below hb1 HG.out.lt)
  have HS := Lib.hid hb
  have K1 := Lib.hid (alive_any w1)
  clear hb hb1 HG
  by_cases hgo : b = true ∧ 0 ≤ F ∧ F ≤ 400 ∧ l.length ≤ 200
  case neg =>
    generalize hll : l.length = ll at hgo ⊢
    have hcase : b = false ∨ (b = true ∧ F < 0) ∨ (b = true ∧ 0 ≤ F ∧ 400 < F) ∨ (b = true ∧ 0 ≤ F ∧ F ≤ 400 ∧ 200 < (ll : Int)) := by
      cases b with
      | false => exact .inl rfl
      | true =>
        right
        simp only [true_and] at hgo ⊢
        omega
    clear hgo hcl hll
    rcases hcase with h1 | ⟨h1, h2⟩ | ⟨h1, h2, h3⟩ | ⟨h1, h2, h3, h4⟩
    all_goals
      subst h1
      go_wp2_with (first | (go_at_call 13; refine K1.out.mono ?_; rintro e w2 ⟨rfl, hb2⟩; have HB2 := Lib.hid (below_then HB1.out hb2); clear hb2))
      go_ret
      exact ⟨rfl, HB2.out⟩
  obtain ⟨rfl, h0, h4, hl200⟩ := hgo
  obtain ⟨f, rfl⟩ : ∃ f : Nat, F = f := ⟨F.toNat, by omega⟩
  have p1 : decide ((f : Int) < 0) = false := decide_eq_false (by omega)
  have p2 : decide ((f : Int) > 400) = false := decide_eq_false (by omega)
  have p3 : decide ((l.length : Int) > 200) = false := decide_eq_false (by omega)
  go_wp2_with fail
  refine K1.out.mono ?_
  rintro e w2 ⟨rfl, hb2⟩
  have HB2 := Lib.hid (below_then HB1.out hb2)
  have HG2 := Lib.hid (HG1.out.below hb2 HG1.out.lt)
  have c0 := HG2.out.cell 0
  have c1 := HG2.out.cell 1
  simp only [List.getElem?_toArray, List.getElem?_cons_zero, List.getElem?_cons_succ] at c0 c1
  clear hb2 p1 p2 p3
  go_wp2_with fail
  refine (eight_any A D g a d w2 (HS.out trivial) (HA.out.below HB2.out) (HD.out.below HB2.out)).mono ?_
  rintro e w3 ⟨v, rfl, hV, hb3⟩
  have HR8 := Lib.hid (eight_right (HS.out trivial))
  have HB3 := Lib.hid (below_then HB2.out hb3)
  have HG3 := Lib.hid (HG2.out.below hb3 HG2.out.lt)
  have HV := Lib.hid hV
  have hzg := HG2.out.lt
  generalize eight g = h at hV HV HR8
  obtain ⟨A3, a3, D3, d3, rfl, -, -⟩ := hV.now
  have HV3 := Lib.hid (show GrV ((w3.setCell ⟨w.heap.size, 0, none⟩ (.slice A3 h.roots.length a3)).setCell ⟨w.heap.size, 1, none⟩ (.slice D3 h.nodes.length d3)) (.agg #[.slice A3 h.roots.length a3, .slice D3 h.nodes.length d3]) h from
    HV.out (fun b => b = w.heap.size) _ (mod_set' (S := fun b => b = w.heap.size) (mod_set' (S := fun b => b = w.heap.size) (Mod.refl _ _) rfl _) rfl _) (by rintro b rfl; exact hzg))
  have HB4 := Lib.hid (show Below w.heap.size w ((w3.setCell ⟨w.heap.size, 0, none⟩ (.slice A3 h.roots.length a3)).setCell ⟨w.heap.size, 1, none⟩ (.slice D3 h.nodes.length d3)) from (HB3.out.setCell (by simp) _).setCell (by simp) _)
  have HG4 := Lib.hid (show Blk ((w3.setCell ⟨w.heap.size, 0, none⟩ (.slice A3 h.roots.length a3)).setCell ⟨w.heap.size, 1, none⟩ (.slice D3 h.nodes.length d3)) w.heap.size 25 #[.slice A3 h.roots.length a3, .slice D3 h.nodes.length d3] from
    (HG3.out.set_ 0 (.slice A3 h.roots.length a3)).set_ 1 (.slice D3 h.nodes.length d3))
  have x0 := HG3.out.cell 0
  have x1 := HG3.out.cell 1
  have f0 := HG3.out.frozen 0
  have f1 := HG3.out.frozen 1
  have x2 := HG3.out.lt
  simp only [List.getElem?_toArray, List.getElem?_cons_zero, List.getElem?_cons_succ] at x0 x1
  clear c0 c1 hb3 hV HV
  go_upto_region 4 with fail
  generalize (w3.setCell ⟨w.heap.size, 0, none⟩ (.slice A3 h.roots.length a3)).setCell ⟨w.heap.size, 1, none⟩ (.slice D3 h.nodes.length d3) = w4 at HV3 HB4 HG4 ⊢
  obtain ⟨_, _, _, _, e4, hA4, hD4⟩ := HV3.out
  injection e4 with e4
  obtain ⟨e5, e6⟩ : (Value.slice A3 h.roots.length a3 = Value.slice _ h.roots.length _) ∧ (Value.slice D3 h.nodes.length d3 = Value.slice _ h.nodes.length _) := by simpa using e4
  injection e5 with e5 _ e5'
  injection e6 with e6 _ e6'
  subst e5 e5' e6 e6'
  clear e4 x0 x1 f0 f1 x2 HG3 HB3 HG2 HB2 HG1
  have HA4 := Lib.hid hA4
  have HD4 := Lib.hid hD4
  clear hA4 hD4
  have y0 := HG4.out.cell 0
  have y1 := HG4.out.cell 1
  have y2 := HG4.out.lt
  simp only [List.getElem?_toArray, List.getElem?_cons_zero, List.getElem?_cons_succ] at y0 y1
  have LAW := Lib.hid (parts_law HR8.out f l)
  have HXO := Lib.hid (runM_outs2 HR8.out f l)
  have hn8 : h.nodes.length ≤ 1000 := (right_parts HR8.out).2.1
  have hr8 : h.roots.length ≤ 64 := by have := (right_parts HR8.out).1; omega
  have HN8 := Lib.hid (right_parts HR8.out).2.2
  have KC := Lib.hid (fun W (hb : Below w4.heap.size w4 W) => refcanon_any A3 D3 h a3 d3 W (HA4.out.below hb) (HD4.out.below hb) HN8.out.1 hr8 (by omega) HN8.out.2)
  obtain ⟨X, hX⟩ : ∃ X, runM h f l = X := ⟨_, rfl⟩
  obtain ⟨Y, hY⟩ : ∃ Y, runM (number h) f l = Y := ⟨_, rfl⟩
  have KX := run_any A3 D3 AL h l a3 d3 cl f (by omega) w4 HA4.out HD4.out (HL.out.below HB4.out)
  rw [hX] at KX LAW HXO
  rw [hY] at LAW
  have HKX := Lib.hid KX
  have HX := Lib.hid hX
  have HY := Lib.hid hY
  clear KX hX hY hcl
  go_wp2_with fail
  refine HKX.out.mono ?_
  rintro e w5 ⟨AO, cO, v, rfl, hO, hV, hb5⟩
  obtain ⟨A5, c5, B5, d5, rfl, hv1, hv2⟩ := hV
  have hbr := below_then (below_1 w5 (.cells #[.int .i64 X.e, .int .i64 X.at_, .int .i64 X.left, .slice AO X.outs.length cO] 32)) (below_1 _ (.cells #[.slice A5 X.gr.roots.length c5, .slice B5 X.gr.nodes.length d5] 25))
  have h7 := (Blk.new w5 32 #[.int .i64 X.e, .int .i64 X.at_, .int .i64 X.left, .slice AO X.outs.length cO]).alloc (.cells #[.slice A5 X.gr.roots.length c5, .slice B5 X.gr.nodes.length d5] 25)
  have h8 := blk_at (w := w5.alloc (.cells #[.int .i64 X.e, .int .i64 X.at_, .int .i64 X.left, .slice AO X.outs.length cO] 32)) (n := w5.heap.size + 1) (t := 25) (cs := #[.slice A5 X.gr.roots.length c5, .slice B5 X.gr.nodes.length d5]) (by simp)
  obtain ⟨w6, hw6⟩ : ∃ w6, (w5.alloc (.cells #[.int .i64 X.e, .int .i64 X.at_, .int .i64 X.left, .slice AO X.outs.length cO] 32)).alloc (.cells #[.slice A5 X.gr.roots.length c5, .slice B5 X.gr.nodes.length d5] 25) = w6 := ⟨_, rfl⟩
  rw [hw6] at hbr h7 h8
  obtain ⟨b7, hb7⟩ : ∃ b7, w5.heap.size = b7 := ⟨_, rfl⟩
  rw [hb7] at h7 h8
  have H7 := Lib.hid h7
  have H8 := Lib.hid h8
  have HO6 := Lib.hid (hO.below hbr)
  have HV1 := Lib.hid (hv1.below hbr)
  have HV2 := Lib.hid (hv2.below hbr)
  have HB6 := Lib.hid (below_then hb5 hbr)
  have z0 := (HB6.out.cell (p := ⟨w.heap.size, 0, none⟩) y2).trans y0
  have z1 := (HB6.out.cell (p := ⟨w.heap.size, 1, none⟩) y2).trans y1
  have z2 : w.heap.size < w6.heap.size := Nat.lt_of_lt_of_le y2 HB6.out.size
  clear hbr h7 h8 hO hv1 hv2 hb5 y0 y1 y2
  go_upto_region 5 with fail
  have HW6 := Lib.hid hw6
  have HB7n := Lib.hid hb7
  clear hw6 hb7
  go_wp2_with fail
  refine (KC.out _ HB6.out).mono ?_
  rintro e w8 ⟨A8, c8, D8, d8, rfl, hi8, hn8', hb8⟩
  have HB8 := Lib.hid (below_then HB6.out hb8)
  have KY := run_any A8 D8 AL (number h) l c8 d8 cl f (by omega) w8 hi8 hn8' (HL.out.below (below_then HB4.out HB8.out))
  rw [HY.out] at KY
  have HKY := Lib.hid KY
  have H7b := Lib.hid (H7.out.below hb8 H7.out.lt)
  have H8b := Lib.hid (H8.out.below hb8 H8.out.lt)
  have HO8 := Lib.hid (HO6.out.below hb8)
  have HV1b := Lib.hid (HV1.out.below hb8)
  have HV2b := Lib.hid (HV2.out.below hb8)
  have z0' := (hb8.cell (p := ⟨w.heap.size, 0, none⟩) z2).trans z0
  have z1' := (hb8.cell (p := ⟨w.heap.size, 1, none⟩) z2).trans z1
  have z2' : w.heap.size < w8.heap.size := Nat.lt_of_lt_of_le z2 hb8.size
  clear KY hi8 hn8' hb8 z0 z1 z2 H7 H8 HO6 HV1 HV2
  go_wp2_with fail
  refine HKY.out.mono ?_
  rintro e w9 ⟨BO, cP, v, rfl, hP, hV, hb9⟩
  obtain ⟨A9, c9, B9, d9, rfl, hv1, hv2⟩ := hV
  obtain ⟨l1, l2, l3, l4, l5, l6⟩ := LAW.out
  rw [← l1, ← l2, ← l3, ← l4]
  rw [← l4] at hP
  have L5 := Lib.hid l5
  have L6 := Lib.hid l6
  clear l1 l2 l3 l4 l5 l6 LAW
  have hbr := below_then (below_1 w9 (.cells #[.int .i64 X.e, .int .i64 X.at_, .int .i64 X.left, .slice BO X.outs.length cP] 32)) (below_1 _ (.cells #[.slice A9 Y.gr.roots.length c9, .slice B9 Y.gr.nodes.length d9] 25))
  have h9 := (Blk.new w9 32 #[.int .i64 X.e, .int .i64 X.at_, .int .i64 X.left, .slice BO X.outs.length cP]).alloc (.cells #[.slice A9 Y.gr.roots.length c9, .slice B9 Y.gr.nodes.length d9] 25)
  have h10 := blk_at (w := w9.alloc (.cells #[.int .i64 X.e, .int .i64 X.at_, .int .i64 X.left, .slice BO X.outs.length cP] 32)) (n := w9.heap.size + 1) (t := 25) (cs := #[.slice A9 Y.gr.roots.length c9, .slice B9 Y.gr.nodes.length d9]) (by simp)
  obtain ⟨wa, hwa⟩ : ∃ wa, (w9.alloc (.cells #[.int .i64 X.e, .int .i64 X.at_, .int .i64 X.left, .slice BO X.outs.length cP] 32)).alloc (.cells #[.slice A9 Y.gr.roots.length c9, .slice B9 Y.gr.nodes.length d9] 25) = wa := ⟨_, rfl⟩
  rw [hwa] at hbr h9 h10
  obtain ⟨b9, hb9n⟩ : ∃ b9, w9.heap.size = b9 := ⟨_, rfl⟩
  rw [hb9n] at h9 h10
  have hba := below_then hb9 hbr
  have H9 := Lib.hid h9
  have H10 := Lib.hid h10
  have H7a := Lib.hid (H7b.out.below hba H7b.out.lt)
  have H8a := Lib.hid (H8b.out.below hba H8b.out.lt)
  have HPa := Lib.hid (hP.below hbr)
  have HOa := Lib.hid (HO8.out.below hba)
  have HV1a := Lib.hid (HV1b.out.below hba)
  have HV2a := Lib.hid (HV2b.out.below hba)
  have HY1 := Lib.hid (hv1.below hbr)
  have HY2 := Lib.hid (hv2.below hbr)
  have HBa := Lib.hid (below_then HB8.out hba)
  have z0 := (hba.cell (p := ⟨w.heap.size, 0, none⟩) z2').trans z0'
  have z1 := (hba.cell (p := ⟨w.heap.size, 1, none⟩) z2').trans z1'
  have z2 : w.heap.size < wa.heap.size := Nat.lt_of_lt_of_le z2' hba.size
  clear hbr h9 h10 hba hb9 hP hv1 hv2 z0' z1' z2' H7b H8b HO8 HV1b HV2b
  go_upto_region 6 with fail
  have HWa := Lib.hid hwa
  have HB9n := Lib.hid hb9n
  clear hwa hb9n
  have q70 := H7a.out.cell 0
  have q71 := H7a.out.cell 1
  have q72 := H7a.out.cell 2
  have q73 := H7a.out.cell 3
  have q74 := H7a.out.lt
  have q90 := H9.out.cell 0
  have q91 := H9.out.cell 1
  have q92 := H9.out.cell 2
  have q93 := H9.out.cell 3
  have q94 := H9.out.lt
  simp only [List.getElem?_toArray, List.getElem?_cons_zero, List.getElem?_cons_succ] at q70 q71 q72 q73 q90 q91 q92 q93
  go_wp2_with fail
  refine (result_same X.e X.at_ X.left AO BO X.outs cO cP wa HOa.out HPa.out HXO.out).mono ?_
  rintro e wb ⟨rfl, hbb⟩
  have H7c := Lib.hid (H7a.out.below hbb H7a.out.lt)
  have H8c := Lib.hid (H8a.out.below hbb H8a.out.lt)
  have H10c := Lib.hid (H10.out.below hbb H10.out.lt)
  have HV1c := Lib.hid (HV1a.out.below hbb)
  have HV2c := Lib.hid (HV2a.out.below hbb)
  have HY1c := Lib.hid (HY1.out.below hbb)
  have HY2c := Lib.hid (HY2.out.below hbb)
  have HBb := Lib.hid (below_then HBa.out hbb)
  have q0 := H7c.out.cell 0
  have q1 := H7c.out.lt
  have r0 := H8c.out.cell 0
  have r1 := H8c.out.cell 1
  have r2 := H8c.out.lt
  have s0 := H10c.out.cell 0
  have s1 := H10c.out.cell 1
  have s2 := H10c.out.lt
  have t0 := (hbb.cell (p := ⟨w.heap.size, 0, none⟩) z2).trans z0
  have t1 := (hbb.cell (p := ⟨w.heap.size, 1, none⟩) z2).trans z1
  have t2 : w.heap.size < wb.heap.size := Nat.lt_of_lt_of_le z2 hbb.size
  simp only [List.getElem?_toArray, List.getElem?_cons_zero, List.getElem?_cons_succ] at q0 r0 r1 s0 s1
  have HAL := Lib.hid (HL.out.below (below_then HB4.out HBb.out))
  clear q70 q71 q72 q73 q74 q90 q91 q92 q93 q94 z0 z1 z2 H7a H8a H9 H10 HV1a HV2a HY1 HY2 hbb
  by_cases hten : X.e = 10
  · have hb10 : (X.e == 10) = true := beq_iff_eq.mpr hten
    have hgr := L5.out hten
    have HGR := Lib.hid hgr
    clear hten hgr
    go_wp2_with fail
    refine (refalike_any A5 B5 A3 D3 X.gr h c5 d5 a3 d3 wb HV1c.out HV2c.out (HA4.out.below HBb.out) (HD4.out.below HBb.out)).mono ?_
    rw [decide_eq_true HGR.out]
    rintro e wd ⟨rfl, hbd⟩
    go_wp2_with fail
    go_ret
    exact ⟨rfl, below_then HB4.out (below_then HBb.out hbd)⟩
  · have hb10 : (X.e == 10) = false := beq_eq_false_iff_ne.mpr hten
    obtain ⟨g1, g2⟩ := L6.out hten
    have HG1' := Lib.hid g1
    have HG2' := Lib.hid g2
    clear hten g1 g2
    go_wp2_with fail
    go_loopw [11, 12] (fun u i wr => ∃ (k : Nat), k ≤ l.length ∧ u = .bool (hasCommit (l.take k)) ∧ i = .int .i64 k ∧ wr = wb) (fun _ i _ => l.length - (intOf i).toNat)
    case atStart => exact ⟨0, Nat.zero_le _, rfl, rfl, rfl⟩
    case round =>
      obtain ⟨k, hk, rfl, rfl, rfl⟩ := hrel
      by_cases hlt : k < l.length
      · obtain ⟨ad, rfl, k0, -, -, -⟩ := codes_at HAL.out k hlt
        have HT := Lib.hid (hasCommit_take l k hlt)
        generalize hasCommit (l.take k) = bb at HT
        generalize l[k] = x at k0 HT
        obtain ⟨xop, xa, xb, xc⟩ := x
        dsimp only at k0 HT
        cases bb with
        | true =>
          go_wp2_with fail
          go_roundw
          case rel => exact ⟨k + 1, by omega, by rw [HT.out]; rfl, by go_num, trivial⟩
          case measure => simp [intOf]; omega
        | false =>
          go_wp2_with fail
          go_roundw
          case rel => exact ⟨k + 1, by omega, by rw [HT.out]; rfl, by go_num, trivial⟩
          case measure => simp [intOf]; omega
      · have hkl : k = l.length := by omega
        subst hkl
        rw [List.take_length]
        have hS : wr.cell? ⟨w.heap.size, 0, none⟩ = some (.slice A3 h.roots.length a3) ∧ wr.cell? ⟨w.heap.size, 1, none⟩ = some (.slice D3 h.nodes.length d3) ∧ wr.cell? ⟨b7 + 1, 0, none⟩ = some (.slice A5 X.gr.roots.length c5) ∧ wr.cell? ⟨b7 + 1, 1, none⟩ = some (.slice B5 X.gr.nodes.length d5) ∧ wr.cell? ⟨b9 + 1, 0, none⟩ = some (.slice A9 Y.gr.roots.length c9) ∧ wr.cell? ⟨b9 + 1, 1, none⟩ = some (.slice B9 Y.gr.nodes.length d9) := ⟨t0, t1, r0, r1, s0, s1⟩
        have HSS := Lib.hid hS
        have HSB : Hid (∀ (W : World), Below wr.heap.size wr W → W.cell? ⟨w.heap.size, 0, none⟩ = some (.slice A3 h.roots.length a3) ∧ W.cell? ⟨w.heap.size, 1, none⟩ = some (.slice D3 h.nodes.length d3) ∧ W.cell? ⟨b7 + 1, 0, none⟩ = some (.slice A5 X.gr.roots.length c5) ∧ W.cell? ⟨b7 + 1, 1, none⟩ = some (.slice B5 X.gr.nodes.length d5) ∧ W.cell? ⟨b9 + 1, 0, none⟩ = some (.slice A9 Y.gr.roots.length c9) ∧ W.cell? ⟨b9 + 1, 1, none⟩ = some (.slice B9 Y.gr.nodes.length d9)) :=
          Lib.hid (fun W hb => ⟨(hb.cell (cell_lt HSS.out.1)).trans HSS.out.1, (hb.cell (cell_lt HSS.out.2.1)).trans HSS.out.2.1, (hb.cell (cell_lt HSS.out.2.2.1)).trans HSS.out.2.2.1, (hb.cell (cell_lt HSS.out.2.2.2.1)).trans HSS.out.2.2.2.1, (hb.cell (cell_lt HSS.out.2.2.2.2.1)).trans HSS.out.2.2.2.2.1, (hb.cell (cell_lt HSS.out.2.2.2.2.2)).trans HSS.out.2.2.2.2.2⟩)
        have KA1 : Hid (∀ (W : World), Below wr.heap.size wr W → Calls Try.prog 18 #[.agg #[.slice A5 X.gr.roots.length c5, .slice B5 X.gr.nodes.length d5], .agg #[.slice A9 Y.gr.roots.length c9, .slice B9 Y.gr.nodes.length d9]] W fun e w' => e = .returned (.bool true) ∧ Below W.heap.size W w') := Lib.hid (fun W hb => by
          have := refalike_any A5 B5 A9 B9 X.gr Y.gr c5 d5 c9 d9 W (HV1c.out.below hb) (HV2c.out.below hb) (HY1c.out.below hb) (HY2c.out.below hb)
          rwa [decide_eq_true HG1'.out] at this)
        cases hcm : hasCommit l with
        | true =>
          clear hS
          go_wp2_with fail
          go_region_law (
              ((try go_simp)
               go_at_call 18
               refine (KA1.out wr.drew (show Below wr.heap.size wr (wr.drewN 1) from below_drewN (Below.refl _ wr) 1)).mono ?_
               rintro e wd ⟨rfl, hbd⟩
               have HBD := Lib.hid (below_then (show Below wr.heap.size wr wr.drew from below_drewN (Below.refl _ wr) 1) hbd)
               obtain ⟨y1, y2, y3, y4, y5, y6⟩ := HSB.out _ HBD.out
               clear hbd))
          all_goals
          go_wp2_with fail
          go_ret
          exact ⟨rfl, below_then HB4.out (below_then HBb.out HBD.out)⟩
        | false =>
          have hno : ∀ x ∈ l, x.op ≠ 14 := by
            intro x hx e
            have : hasCommit l = true := by
              unfold hasCommit
              rw [List.any_eq_true]
              exact ⟨x, hx, by simp [e]⟩
            rw [hcm] at this; cases this
          have HNC := Lib.hid (HG2'.out hno)
          clear hS hno
          go_wp2_with fail
          go_region_held3 (fun W => W.cell? ⟨w.heap.size, 0, none⟩ = some (.slice A3 h.roots.length a3) ∧ W.cell? ⟨w.heap.size, 1, none⟩ = some (.slice D3 h.nodes.length d3) ∧ W.cell? ⟨b7 + 1, 0, none⟩ = some (.slice A5 X.gr.roots.length c5) ∧ W.cell? ⟨b7 + 1, 1, none⟩ = some (.slice B5 X.gr.nodes.length d5) ∧ W.cell? ⟨b9 + 1, 0, none⟩ = some (.slice A9 Y.gr.roots.length c9) ∧ W.cell? ⟨b9 + 1, 1, none⟩ = some (.slice B9 Y.gr.nodes.length d9))
            (first | exact hcs | exact HSS.out | go_keep)
            (first
              | (go_at_call 18; revert HNE; intro HNE; refine (refalike_any A5 B5 AE DE X.gr (number h) c5 d5 cE dE _ (HV1c.out.below HBE.out) (HV2c.out.below HBE.out) HNE.out.1 HNE.out.2).mono ?_; rw [decide_eq_true HNC.out]; rintro e wf ⟨rfl, hbf⟩; have hcs := HSB.out _ (below_then HBE.out hbf); have HBF := Lib.hid (below_then HBE.out hbf); clear hbf)
              | (go_at_call 16; refine (KC.out _ (below_then HBb.out HBD.out)).mono ?_; rintro e we ⟨AE, cE, DE, dE, rfl, hiE, hnE, hbE⟩; have HNE := Lib.hid (And.intro hiE hnE); have hcs := HSB.out _ (below_then HBD.out hbE); have HBE := Lib.hid (below_then HBD.out hbE); clear hiE hnE hbE)
              | (go_at_call 18; refine (KA1.out _ (below_drewN (Below.refl _ wr) 1)).mono ?_; rintro e wd ⟨rfl, hbd⟩; have hcs := HSB.out _ (below_then (below_drewN (Below.refl _ wr) 1) hbd); have HBD := Lib.hid (below_then (below_drewN (Below.refl _ wr) 1) hbd); clear hbd))
          go_wp2_with fail
          go_ret
          exact ⟨rfl, below_then HB4.out (below_then HBb.out HBF.out)⟩
end Go.Proofs.Yteminkohgagedaa.Mo
