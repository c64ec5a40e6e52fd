/- The statement on the peak: for every input its function answers true. -/
import Derived.Test.YteminkohgagedaaMoPeakL
import Derived.Test.YteminkohgagedaaGrRefRight
import Derived.Test.YteminkohgagedaaGrRefCanonW
import Derived.Test.YteminkohgagedaaMoTop
namespace Go.Proofs.Yteminkohgagedaa.Mo
open Go.RowKit Go.Proofs.Yteminkohgagedaa.Base Go.Proofs.Yteminkohgagedaa.Gr Go.Proofs.Yteminkohgagedaa.Ver
set_option linter.unusedVariables false
set_option linter.unusedSimpArgs false

theorem runM_small {g : Gr} (hg : right g = true) (F : Nat) (hF : F ≤ 50000) (l : List Ins) : (∀ x ∈ (runM g F l).gr.nodes, x.slots.length ≤ 15 ∧ x.words.length ≤ 30) ∧ (runM g F l).gr.nodes.length ≤ 100000 := by
  rcases chk_zero l with hc | hc
  · have er : (runM g F l).gr = number (exec l F (start g g)).σ.last := by rw [runM, if_pos hg, if_pos hc]
    have hw := exec_well (chk_ok hc).2.2.1 F 1000 (start g g) (start_well hg)
    have := number_small (g := (exec l F (start g g)).σ.last) (sound_small hw.last)
    have hs := hw.last.size
    rw [er]
    exact ⟨this.1, by omega⟩
  · have er : (runM g F l).gr = g := by rw [runM, if_pos hg, if_neg (by omega)]
    rw [er]
    have := sound_right hg
    exact ⟨sound_small this, by have := this.size; omega⟩

set_option maxRecDepth 100000 in
set_option maxHeartbeats 8000000 in
theorem peak_good (A D AL : Option Addr) (g : Gr) (c d cl : Nat) (l : List Ins) (F : Nat) (w : World) (hA : Ints w A g.roots) (hD : Nodes w D g.nodes) (hL : Arr w Ins.cells 4 AL l) (h1 : g.nodes.length ≤ 40) (h2 : F ≤ 200) (h3 : l.length ≤ 100) (hg : right g = true) :
    Calls Try.prog 11 #[.agg #[.slice A g.roots.length c, .slice D g.nodes.length d], .int .i64 (F : Int), .slice AL l.length cl] w fun e w' => e = .returned (.bool true) ∧ Below w.heap.size w w' := by
  have hb0 := below_1 w (.cells #[.slice A g.roots.length c, .slice D g.nodes.length d] 25)
  have HB0 := Lib.hid hb0
  have HA := Lib.hid hA
  have HD := Lib.hid hD
  have HL := Lib.hid hL
  have HG0 := Lib.hid (Blk.new w 25 #[.slice A g.roots.length c, .slice D g.nodes.length d])
  have LAW := Lib.hid (peak_law hg F l)
  have HGR := Lib.hid hg
  have p1 : decide ((g.nodes.length : Int) > 40) = false := decide_eq_false (by omega)
  have p2 : decide ((F : Int) < 0) = false := decide_eq_false (by omega)
  have p3 : decide ((F : Int) > 200) = false := decide_eq_false (by omega)
  have p4 : decide ((l.length : Int) > 100) = false := decide_eq_false (by omega)
  have KR := Lib.hid (rright_any A D g c d _ (hA.below hb0) (hD.below hb0))
  rw [hg] at KR
  clear hA hD hL hb0 hg
  go_enter Try.func11, Try.ntmps11
  go_wp2_with (first | (go_at_call 23; refine KR.out.mono ?_; rintro e w1 ⟨rfl, hb1⟩; have HB1 := Lib.hid (below_then HB0.out hb1); have HG1 := Lib.hid (HG0.out.below hb1 HG0.out.lt); clear hb1) | (go_at_call 13; refine (alive_any _).mono ?_; rintro e w2 ⟨rfl, hb2⟩; have HB2 := Lib.hid (below_then HB1.out hb2); have HG2 := Lib.hid (HG1.out.below hb2 HG1.out.lt); clear hb2; have x0 := HG2.out.cell 0; have x1 := HG2.out.cell 1; have x2 := HG2.out.lt; simp only [List.getElem?_toArray, List.getElem?_cons_zero, List.getElem?_cons_succ] at x0 x1))
  refine (run_any A D AL g l c d cl F (by omega) _ (HA.out.below HB2.out) (HD.out.below HB2.out) (HL.out.below HB2.out)).mono ?_
  have HSM := Lib.hid (runM_small HGR.out F (by omega) l)
  obtain ⟨X, hX⟩ : ∃ X, runM g F l = X := ⟨_, rfl⟩
  obtain ⟨Q, hQ⟩ : ∃ Q, peakM g F l = Q := ⟨_, rfl⟩
  rw [hX] at HSM LAW ⊢
  rw [hQ] at LAW
  have HX := Lib.hid hX
  have HQ := Lib.hid hQ
  clear hX hQ
  rintro e w3 ⟨AO, cO, v, rfl, hO, hV, hb3⟩
  obtain ⟨A4, c4, B4, d4, rfl, hv1, hv2⟩ := hV
  have hbr := below_then (below_1 w3 (.cells #[.int .i64 X.e, .int .i64 X.at_, .int .i64 X.left, .slice AO X.outs.length cO] 32)) (below_1 _ (.cells #[.slice A4 X.gr.roots.length c4, .slice B4 X.gr.nodes.length d4] 25))
  have HR := Lib.hid ((Blk.new w3 32 #[.int .i64 X.e, .int .i64 X.at_, .int .i64 X.left, .slice AO X.outs.length cO]).alloc (.cells #[.slice A4 X.gr.roots.length c4, .slice B4 X.gr.nodes.length d4] 25))
  have HT := Lib.hid (blk_at (w := w3.alloc (.cells #[.int .i64 X.e, .int .i64 X.at_, .int .i64 X.left, .slice AO X.outs.length cO] 32)) (n := w3.heap.size + 1) (t := 25) (cs := #[.slice A4 X.gr.roots.length c4, .slice B4 X.gr.nodes.length d4]) (by simp))
  have HV2 := Lib.hid (hv2.below hbr)
  have HB3 := Lib.hid (below_then HB2.out (below_then hb3 hbr))
  have HG3 := Lib.hid (HG2.out.below (below_then hb3 hbr) HG2.out.lt)
  have HP := Lib.hid (peak_any A D AL g l c d cl F (by omega) _ (HA.out.below HB3.out) (HD.out.below HB3.out) (HL.out.below HB3.out))
  rw [HQ.out] at HP
  have HC := Lib.hid (fun W (hb : Below w.heap.size w W) => refcanon_any A D g c d W (HA.out.below hb) (HD.out.below hb) (sound_right HGR.out).named (by rw [(sound_right HGR.out).roots]; omega) (by omega) (sound_right HGR.out).nodes)
  have y0 := HG3.out.cell 0
  have y1 := HG3.out.cell 1
  have y2 := HG3.out.lt
  simp only [List.getElem?_toArray, List.getElem?_cons_zero, List.getElem?_cons_succ] at y0 y1
  clear hbr hb3 hv1 hv2 hO x0 x1 x2
  by_cases hten : X.e = 10
  · have hb10 : (X.e == 10) = true := beq_iff_eq.mpr hten
    have hq0 := LAW.out.1 hten
    obtain rfl : 0 = Q := hq0.symm
    clear hten
    go_wp2_with (first | (go_at_call 24; refine HP.out.mono ?_; rintro e w4 ⟨rfl, hb4⟩; have HB4 := Lib.hid (below_then HB3.out hb4); have r0 := (HR.out.below hb4 HR.out.lt).cell 0; have r4 := (HR.out.below hb4 HR.out.lt).lt; simp only [List.getElem?_toArray, List.getElem?_cons_zero] at r0; clear hb4))
    go_ret
    exact ⟨rfl, HB4.out⟩
  · have hb10 : (X.e == 10) = false := beq_eq_false_iff_ne.mpr hten
    obtain ⟨hq1, hq2⟩ := LAW.out.2 hten
    have HQ2 := Lib.hid hq2
    have HQ1 := Lib.hid hq1
    have hd1 : decide ((Q : Int) ≥ (cells (number g).nodes : Nat)) = true := decide_eq_true (by omega)
    have hd2 : decide ((Q : Int) ≥ (cells X.gr.nodes : Nat)) = true := decide_eq_true (by omega)
    have hd3 : decide (cells X.gr.nodes ≤ Q) = true := decide_eq_true hq2
    have hd4 : decide (cells (number g).nodes ≤ Q) = true := decide_eq_true hq1
    have HNS := Lib.hid (number_small (g := g) (sound_small (sound_right HGR.out)))
    clear hten hq1 hq2
    generalize hz1 : cells (number g).nodes = Z1 at hd1 hd4
    generalize hz2 : cells X.gr.nodes = Z2 at hd2 hd3
    have HZ1 := Lib.hid hz1
    have HZ2 := Lib.hid hz2
    clear hz1 hz2
    go_wp2_with (first
      | (go_at_call 25; revert HS5; intro HS5; refine (rsize_any _ B4 X.gr.nodes d4 _ (HV2.out.below HB7.out) HSM.out.2 HSM.out.1).mono ?_; rintro e w8 ⟨rfl, hb8⟩; rw [HZ2.out]; have HB8 := Lib.hid (below_then HBW7.out hb8); clear hb8)
      | (go_at_call 25; refine (rsize_any _ D5 (number g).nodes d5 _ HN5.out (by have := HNS.out.2; omega) HNS.out.1).mono ?_; rintro e w7 ⟨rfl, hb7⟩; rw [HZ1.out]; have HS5 := HN5; have HB7 := Lib.hid (below_then (below_then HB4x.out HB5x.out) hb7); have HBW7 := Lib.hid (below_then HB5.out hb7); have hT7 := HT.out.below HB7.out HT.out.lt; have r0 := hT7.cell 0; have r1 := hT7.cell 1; have r4 := hT7.lt; simp only [List.getElem?_toArray, List.getElem?_cons_zero, List.getElem?_cons_succ] at r0 r1; clear hb7 hT7)
      | (go_at_call 16; refine (HC.out _ HB4.out).mono ?_; rintro e w5 ⟨A5, c5, D5, d5, rfl, hi5, hn5, hb5⟩; have HN5 := Lib.hid hn5; have HB5 := Lib.hid (below_then HB4.out hb5); have HB5x := Lib.hid hb5; clear hi5 hn5 hb5)
      | (go_at_call 24; refine HP.out.mono ?_; rintro e w4 ⟨rfl, hb4⟩; have HB4 := Lib.hid (below_then HB3.out hb4); have HB4x := Lib.hid hb4; have r0 := (HR.out.below hb4 HR.out.lt).cell 0; have r4 := (HR.out.below hb4 HR.out.lt).lt; simp only [List.getElem?_toArray, List.getElem?_cons_zero] at r0; have z0 := (hb4.cell (p := ⟨w.heap.size, 0, none⟩) y2).trans y0; have z1 := (hb4.cell (p := ⟨w.heap.size, 1, none⟩) y2).trans y1; clear hb4))
    go_ret
    exact ⟨rfl, HB8.out⟩

set_option maxRecDepth 100000 in
set_option maxHeartbeats 8000000 in
theorem peak_walk (A D : Option Addr) (g : Gr) (c d : Nat) (F : Int) (AL : Option Addr) (l : List Ins) (cl : Nat) (w : World) (hA : Ints w A g.roots) (hD : Nodes w D g.nodes) (hL : Arr w Ins.cells 4 AL l) (hcl : l.length ≤ cl) :
    Calls Try.prog 11 #[.agg #[.slice A g.roots.length c, .slice D g.nodes.length d], .int .i64 F, .slice AL l.length cl] w fun e w' => e = .returned (.bool true) ∧ Below w.heap.size w w' := by
  have hb0 := below_1 w (.cells #[.slice A g.roots.length c, .slice D g.nodes.length d] 25)
  by_cases hg : g.nodes.length ≤ 40 ∧ 0 ≤ F ∧ F ≤ 200 ∧ l.length ≤ 100
  · obtain ⟨h1, h2, h3, h4⟩ := hg
    cases hr : right g with
    | true =>
      obtain ⟨n, rfl⟩ : ∃ n : Nat, F = (n : Int) := ⟨F.toNat, by omega⟩
      exact peak_good A D AL g c d cl l n w hA hD hL h1 (by omega) h4 hr
    | false =>
      have p1 : decide ((g.nodes.length : Int) > 40) = false := decide_eq_false (by omega)
      have p2 : decide (F < 0) = false := decide_eq_false (by omega)
      have p3 : decide (F > 200) = false := decide_eq_false (by omega)
      have p4 : decide ((l.length : Int) > 100) = false := decide_eq_false (by omega)
      have KR := Lib.hid (rright_any A D g c d _ (hA.below hb0) (hD.below hb0))
      rw [hr] at KR
      have HB0 := Lib.hid hb0
      clear hA hD hL hb0 hr
      go_enter Try.func11, Try.ntmps11
      go_wp2_with (first | (go_at_call 23; refine KR.out.mono ?_; rintro e w1 ⟨rfl, hb1⟩; have HB1 := Lib.hid (below_then HB0.out hb1); clear hb1) | (go_at_call 13; refine (alive_any _).mono ?_; rintro e w2 ⟨rfl, hb2⟩; have HB2 := Lib.hid (below_then HB1.out hb2); clear hb2))
      go_ret
      exact ⟨rfl, HB2.out⟩
  · have HB0 := Lib.hid hb0
    generalize g.nodes.length = m at hg HB0 ⊢
    generalize l.length = k at hg ⊢
    rcases (by omega : 40 < (m : Int) ∨ ((m : Int) ≤ 40 ∧ F < 0) ∨ ((m : Int) ≤ 40 ∧ 0 ≤ F ∧ 200 < F) ∨ ((m : Int) ≤ 40 ∧ 0 ≤ F ∧ F ≤ 200 ∧ 100 < (k : Int))) with h1 | ⟨h1, h2⟩ | ⟨h1, h2, h3⟩ | ⟨h1, h2, h3, h4⟩
    all_goals
      clear hg hL hA hD hb0 hcl
      go_enter Try.func11, Try.ntmps11
      go_wp2_with (first | (go_at_call 13; refine (alive_any _).mono ?_; rintro e w1 ⟨rfl, hb1⟩; have HB1 := Lib.hid (below_then HB0.out hb1); clear hb1))
      go_ret
      exact ⟨rfl, HB1.out⟩

end Go.Proofs.Yteminkohgagedaa.Mo
