/- flittingref16.Right: whether a graph may be. -/
import Derived.Test.YteminkohgagedaaGreatQGrCells
import Derived.Deep.RegionLaw
import Derived.Test.YteminkohgagedaaGreatQRfNew
namespace Go.Proofs.YteminkohgagedaaGreat.Gr
open Go.RowKit Go.Proofs.YteminkohgagedaaGreat.Base
set_option linter.unusedVariables false
set_option linter.unusedSimpArgs false

theorem below_like {B : Nat} {w w1 w2 : World} (h : Below B w w1) (hl : Like w1 w2) : Below B w w2 := ⟨hl.os.trans h.os, hl.tape.trans h.tape, hl.output.trans h.output, by rw [hl.heap]; exact h.size, fun i hi => by rw [hl.heap]; exact h.block i hi⟩
theorem like_below {B : Nat} {w w1 w2 : World} (hl : Like w w1) (h : Below B w1 w2) : Below B w w2 := ⟨h.os.trans hl.os, h.tape.trans hl.tape, h.output.trans hl.output, by rw [← hl.heap]; exact h.size, fun i hi => by rw [h.block i hi, hl.heap]⟩

/-- The two boxes of Same. -/
def Boxes (w : World) (p : Nat) (v1 v2 v3 v4 : Value) : Prop := Blk w p 25 #[v1, v2] ∧ Blk w (p + 1) 25 #[v3, v4]
theorem Boxes.below {w w' : World} {p : Nat} {v1 v2 v3 v4 : Value} (h : Boxes w p v1 v2 v3 v4) (hb : Below w.heap.size w w') : Boxes w' p v1 v2 v3 v4 := ⟨h.1.below hb h.1.lt, h.2.below hb h.2.lt⟩
theorem Boxes.cells {w : World} {p : Nat} {v1 v2 v3 v4 : Value} (h : Boxes w p v1 v2 v3 v4) : w.cell? ⟨p, 0, none⟩ = some v1 ∧ w.cell? ⟨p, 1, none⟩ = some v2 ∧ w.cell? ⟨p + 1, 0, none⟩ = some v3 ∧ w.cell? ⟨p + 1, 1, none⟩ = some v4 := by
  have e0 := h.1.cell 0
  have e1 := h.1.cell 1
  have e2 := h.2.cell 0
  have e3 := h.2.cell 1
  simp only [List.getElem?_toArray, List.getElem?_cons_zero, List.getElem?_cons_succ] at e0 e1 e2 e3
  exact ⟨e0, e1, e2, e3⟩
theorem Boxes.new (w : World) (v1 v2 v3 v4 : Value) : Boxes ((w.alloc (.cells #[v1, v2] 25)).alloc (.cells #[v3, v4] 25)) w.heap.size v1 v2 v3 v4 := by
  refine ⟨(Blk.new w _ _).alloc _, ?_⟩
  have := Blk.new (w.alloc (.cells #[v1, v2] 25)) 25 #[v3, v4]
  simpa using this

end Go.Proofs.YteminkohgagedaaGreat.Gr
namespace Go.Proofs.YteminkohgagedaaGreat.Gr
open Go.RowKit Go.Proofs.YteminkohgagedaaGreat.Base
set_option linter.unusedVariables false
set_option linter.unusedSimpArgs false

theorem refints_any (A B : Option Addr) (l m : List Int) (c d : Nat) (w : World) (hA : Ints w A l) (hB : Ints w B m) :
    Calls Tryz.prog 41 #[.slice A l.length c, .slice B m.length d] w fun e w' => e = .returned (.bool (decide (l = m))) ∧ ∃ q, w' = w.drewN q := by
  have HA := Lib.hid hA
  have HB := Lib.hid hB
  have hsz := hA.2
  clear hA hB
  obtain ⟨r, hr⟩ : ∃ r, decide (l = m) = r := ⟨_, rfl⟩
  rw [hr]
  have HR := Lib.hid hr
  clear hr
  by_cases hn : l.length = m.length
  · have hb : ((l.length : Int) != m.length) = false := bne_eq_false_iff_eq.mpr (by omega)
    have HN := Lib.hid hn
    have hle : l.length ≤ m.length := by omega
    clear hn
    go_enter Tryz.func41, Tryz.ntmps41
    go_wp2
    go_loopw [5] (fun i wr => ∃ k : Nat, k ≤ l.length ∧ i = .int .i64 k ∧ Hid (∃ q, wr = w.drewN q) ∧ Hid (∀ j, j < k → (h1 : j < l.length) → (h2 : j < m.length) → l[j] = m[j])) (fun i _ => l.length - (intOf i).toNat)
    case atStart => exact ⟨0, Nat.zero_le _, rfl, Lib.hid ⟨0, rfl⟩, fun j hj => absurd hj (by omega)⟩
    case round =>
      obtain ⟨k, hk, rfl, HW, HE⟩ := hrel
      have hAr : Ints wr A l := by obtain ⟨q, hq⟩ := HW.out; rw [hq]; exact HA.out
      have hBr : Ints wr B m := by obtain ⟨q, hq⟩ := HW.out; rw [hq]; exact HB.out
      have HD : ∀ n, Hid (∃ q, wr.drewN n = w.drewN q) := fun n => by obtain ⟨q, hq⟩ := HW.out; exact ⟨_, by rw [hq]; exact World.drewN_drewN _ _ _⟩
      have HDD := Lib.hid HD
      clear HD
      by_cases hlt : k < l.length
      · obtain ⟨ad, rfl, c1⟩ := hAr.at_ k hlt
        obtain ⟨bd, rfl, c2⟩ := hBr.at_ k (by omega)
        clear hAr hBr
        by_cases he : l[k] = m[k]
        · have hq : (l[k] != m[k]) = false := bne_eq_false_iff_eq.mpr he
          go_wp2_with (go_quiet (fail))
          all_goals
            go_roundw
            case rel =>
              refine ⟨k + 1, by omega, by go_num, HDD.out _, fun j hj h1 h2 => ?_⟩
              rcases Nat.lt_or_ge j k with h | h
              · exact HE.out j h h1 h2
              · obtain rfl : j = k := by omega
                exact he
            case measure => simp [intOf]; omega
        · have hq : (l[k] != m[k]) = true := bne_iff_ne.mpr he
          go_wp2_with (go_quiet (fail))
          all_goals
            go_ret
            refine ⟨?_, (HDD.out _).out⟩
            have : decide (l = m) = false := decide_eq_false fun e => he (by subst e; rfl)
            have e := HR.out
            rw [this] at e
            subst e
            rfl
      · go_wp2
        go_ret
        refine ⟨?_, HW.out⟩
        have : decide (l = m) = true := decide_eq_true (List.ext_getElem HN.out fun j h1 h2 => HE.out j (by omega) h1 h2)
        have e := HR.out
        rw [this] at e
        subst e
        rfl
  · have hb : ((l.length : Int) != m.length) = true := bne_iff_ne.mpr (by omega)
    have : decide (l = m) = false := decide_eq_false fun e => hn (by rw [e])
    have e := HR.out
    rw [this] at e
    subst e
    clear this hn HR
    go_enter Tryz.func41, Tryz.ntmps41
    go_wp2
    go_ret
    exact ⟨rfl, 0, rfl⟩


theorem ints_below {args : Array Value} {w : World} {b : Bool} (h : Calls Tryz.prog 41 args w fun e w' => e = .returned (.bool b) ∧ ∃ q, w' = w.drewN q) :
    Calls Tryz.prog 41 args w fun e w' => e = .returned (.bool b) ∧ Below w.heap.size w w' := h.mono fun e w' ⟨h1, q, h2⟩ => ⟨h1, by rw [h2]; exact below_drewN (Below.refl _ _) q⟩

set_option maxRecDepth 100000 in
set_option maxHeartbeats 2000000 in
theorem refalike_any (A B C D : Option Addr) (g h : Gr) (a b c d : Nat) (w : World) (hA : Ints w A g.roots) (hB : Nodes w B g.nodes) (hC : Ints w C h.roots) (hD : Nodes w D h.nodes) :
    Calls Tryz.prog 16 #[.agg #[.slice A g.roots.length a, .slice B g.nodes.length b], .agg #[.slice C h.roots.length c, .slice D h.nodes.length d]] w fun e w' => e = .returned (.bool (decide (g = h))) ∧ Below w.heap.size w w' := by
  have HB0 := Lib.hid (box_zero w #[.slice A g.roots.length a, .slice B g.nodes.length b] 25 (.cells #[.slice C h.roots.length c, .slice D h.nodes.length d] 25))
  have HX0 := Lib.hid (Boxes.new w (.slice A g.roots.length a) (.slice B g.nodes.length b) (.slice C h.roots.length c) (.slice D h.nodes.length d))
  have HB := Lib.hid hB
  have HD := Lib.hid hD
  have hbl := hB.1
  have hdl := hD.1
  have k1 := ints_below (refints_any A C g.roots h.roots a c _ (hA.below HB0.out) (hC.below HB0.out))
  obtain ⟨x1, x2, x3, x4⟩ := HX0.out.cells
  clear hA hB hC hD
  by_cases hr : g.roots = h.roots
  · rw [decide_eq_true hr] at k1
    have HK1 := Lib.hid k1
    by_cases hn : g.nodes.length = h.nodes.length
    · have hnb : ((g.nodes.length : Int) != h.nodes.length) = false := bne_eq_false_iff_eq.mpr (by omega)
      have HR := Lib.hid hr
      have HN := Lib.hid hn
      have hn' : g.nodes.length ≤ h.nodes.length := by omega
      obtain ⟨r, hrr⟩ : ∃ r, decide (g = h) = r := ⟨_, rfl⟩
      rw [hrr]
      have HRR := Lib.hid hrr
      clear hr hn k1 hrr
      go_enter Tryz.func16, Tryz.ntmps16
      go_wp2_with fail
      refine HK1.out.mono ?_
      rintro e w1 ⟨rfl, hb⟩
      have HB1 := Lib.hid (below_then HB0.out hb)
      have HX1 := Lib.hid (HX0.out.below hb)
      obtain ⟨y1, y2, y3, y4⟩ := HX1.out.cells
      clear hb
      go_wp2_with fail
      go_loopw [5] (fun i wr => ∃ (k : Nat), k ≤ g.nodes.length ∧ i = .int .i64 k ∧ Hid (Below w.heap.size w wr) ∧ Hid (Boxes wr w.heap.size (.slice A g.roots.length a) (.slice B g.nodes.length b) (.slice C h.roots.length c) (.slice D h.nodes.length d)) ∧
        Hid (∀ j, j < k → (h1 : j < g.nodes.length) → (h2 : j < h.nodes.length) → g.nodes[j] = h.nodes[j])) (fun i _ => g.nodes.length - (intOf i).toNat)
      case atStart => exact ⟨0, Nat.zero_le _, rfl, HB1, HX1, Lib.hid (fun j hj => absurd hj (by omega))⟩
      case round =>
        obtain ⟨k, hk, rfl, HB2, HX2, HE⟩ := hrel
        clear y1 y2 y3 y4
        obtain ⟨y1, y2, y3, y4⟩ := HX2.out.cells
        by_cases hlt : k < g.nodes.length
        · have hlt2 : k < h.nodes.length := by omega
          obtain ⟨dd, As, cs, Bs, ds, rfl, d2, d3, i1, i2⟩ := nds_at (HB.out.below HB2.out) k hlt
          obtain ⟨ee, Cs, es, Ds, fs, rfl, d4, d5, i3, i4⟩ := nds_at (HD.out.below HB2.out) k hlt2
          have HX := Lib.hid (show ∀ (e : g.nodes[k] = h.nodes[k]), ∀ j, j < k + 1 → (h1 : j < g.nodes.length) → (h2 : j < h.nodes.length) → g.nodes[j] = h.nodes[j] from fun e j hj h1 h2 => by
            rcases Nat.lt_or_ge j k with h | h
            · exact HE.out j h h1 h2
            · obtain rfl : j = k := by omega
              exact e)
          have HNE := Lib.hid (show g.nodes[k] ≠ h.nodes[k] → r = false from fun e => by rw [← HRR.out]; exact decide_eq_false (fun e2 => e (by subst e2; rfl)))
          generalize g.nodes[k] = x at d2 d3 i1 i2 HX HNE
          generalize h.nodes[k] = y at d4 d5 i3 i4 HX HNE
          have HK2 := Lib.hid (fun n : Nat => refints_any As Cs x.slots y.slots cs es (wr.drewN n) i1 i3)
          have HK3 := Lib.hid (fun n : Nat => refints_any Bs Ds x.words y.words ds fs (wr.drewN n) i2 i4)
          have z2 := cell_lt d2
          have z3 := cell_lt d3
          have z4 := cell_lt d4
          have z5 := cell_lt d5
          clear i1 i2 i3 i4 x1 x2 x3 x4
          by_cases hs : x.slots = y.slots
          · rw [decide_eq_true hs] at HK2
            by_cases hw : x.words = y.words
            · rw [decide_eq_true hw] at HK3
              have HXY := Lib.hid (show x = y by cases x; cases y; simp_all)
              clear hs hw
              go_wp2_with fail
              go_quiet (first | (go_at_call 41; with_reducible exact Calls.quiet_of (HK2.out _)) | (go_at_call 41; with_reducible exact Calls.quiet_of (HK3.out _)))
              go_wp2
              go_roundw
              case rel => exact ⟨k + 1, by omega, by go_num, Lib.hid (below_drewN HB2.out _), Lib.hid (HX2.out.below (below_drewN (Below.refl _ _) _)), Lib.hid (HX.out HXY.out)⟩
              case measure => simp [intOf]; omega
            · rw [decide_eq_false hw] at HK3
              have HXY := Lib.hid (show x ≠ y from fun e => hw (by rw [e]))
              clear hs hw
              go_wp2_with fail
              go_quiet (first | (go_at_call 41; with_reducible exact Calls.quiet_of (HK2.out _)) | (go_at_call 41; with_reducible exact Calls.quiet_of (HK3.out _)))
              go_wp2
              go_ret
              refine ⟨?_, below_drewN HB2.out _⟩
              rw [HNE.out HXY.out]
              rfl
          · rw [decide_eq_false hs] at HK2
            have HXY := Lib.hid (show x ≠ y from fun e => hs (by rw [e]))
            clear hs
            go_wp2_with fail
            go_quiet ((go_at_call 41; with_reducible exact Calls.quiet_of (HK2.out _)))
            go_wp2
            go_ret
            refine ⟨?_, below_drewN HB2.out _⟩
            rw [HNE.out HXY.out]
            rfl
        · have hkl : k = g.nodes.length := by omega
          have he : r = true := by
            rw [← HRR.out]
            refine decide_eq_true ?_
            have h1 : g.nodes = h.nodes := List.ext_getElem HN.out fun j h1 h2 => HE.out j (by omega) h1 h2
            have h2 := HR.out
            cases g; cases h; simp_all
          have HE' := Lib.hid he
          clear he
          go_wp2_with fail
          go_ret
          refine ⟨?_, HB2.out⟩
          rw [HE'.out]
          rfl
    · have hnb : ((g.nodes.length : Int) != h.nodes.length) = true := bne_iff_ne.mpr (by omega)
      have hf : decide (g = h) = false := decide_eq_false (fun e => hn (by rw [e]))
      rw [hf]
      clear hr hn k1 hf
      go_enter Tryz.func16, Tryz.ntmps16
      go_wp2_with fail
      refine HK1.out.mono ?_
      rintro e w1 ⟨rfl, hb⟩
      have HB1 := Lib.hid (below_then HB0.out hb)
      have HX1 := Lib.hid (HX0.out.below hb)
      obtain ⟨y1, y2, y3, y4⟩ := HX1.out.cells
      clear hb
      go_wp2_with fail
      go_ret
      exact ⟨rfl, HB1.out⟩
  · rw [decide_eq_false hr] at k1
    have HK1 := Lib.hid k1
    have hf : decide (g = h) = false := decide_eq_false (fun e => hr (by rw [e]))
    rw [hf]
    clear hr k1 hf
    go_enter Tryz.func16, Tryz.ntmps16
    go_wp2_with fail
    refine HK1.out.mono ?_
    rintro e w1 ⟨rfl, hb⟩
    have HB1 := Lib.hid (below_then HB0.out hb)
    clear hb
    go_wp2_with fail
    go_ret
    exact ⟨rfl, HB1.out⟩

end Go.Proofs.YteminkohgagedaaGreat.Gr
namespace Go.Proofs.YteminkohgagedaaGreat.Gr
open Go.RowKit Go.Proofs.YteminkohgagedaaGreat.Base
set_option linter.unusedVariables false
set_option linter.unusedSimpArgs false

theorem number_ref (v : Int) (w : World) : Calls Tryz.prog 32 #[.int .i64 v] w fun e w' => e = .returned (.bool (decide (0 ≤ v) && decide (v < 4294967296))) ∧ w' = w := by
  by_cases h : 0 ≤ v
  · have hb : decide (v ≥ 0) = true := decide_eq_true h
    by_cases h1 : v < 4294967296
    · have hc : decide (v < 4294967296) = true := decide_eq_true h1
      go_enter Tryz.func32, Tryz.ntmps32
      go_wp2
      go_ret
      exact ⟨by simp [h, h1], rfl⟩
    · have hc : decide (v < 4294967296) = false := decide_eq_false h1
      go_enter Tryz.func32, Tryz.ntmps32
      go_wp2
      go_ret
      exact ⟨by simp [h1], rfl⟩
  · have hb : decide (v ≥ 0) = false := decide_eq_false h
    go_enter Tryz.func32, Tryz.ntmps32
    go_wp2
    go_ret
    exact ⟨by simp [h], rfl⟩

set_option maxRecDepth 100000 in
set_option maxHeartbeats 8000000 in
theorem rright_any (A D : Option Addr) (g : Gr) (c d : Nat) (w : World) (hA : Ints w A g.roots) (hD : Nodes w D g.nodes) :
    Calls Tryz.prog 12 #[.agg #[.slice A g.roots.length c, .slice D g.nodes.length d]] w fun e w' => e = .returned (.bool (right g)) ∧ Below w.heap.size w w' := by
  have hb0 := below_1 w (.cells #[.slice A g.roots.length c, .slice D g.nodes.length d] 25)
  have HA := Lib.hid (hA.below hb0)
  have HD := Lib.hid (hD.below hb0)
  have HG := Lib.hid (Blk.new w 25 #[.slice A g.roots.length c, .slice D g.nodes.length d])
  have HB0 := Lib.hid hb0
  obtain ⟨R, hR⟩ : ∃ R, right g = R := ⟨_, rfl⟩
  rw [hR]
  have HR := Lib.hid hR
  have HRT : Hid (g.roots.length = 8 → g.nodes.length ≤ 1000 → named g.roots g.nodes.length = true → (∀ x ∈ g.nodes, ndOk x g.nodes.length = true) → R = true) := Lib.hid (by
    intro a b e f
    rw [← hR, right]
    simp only [Bool.and_eq_true, decide_eq_true_eq, List.all_eq_true]
    exact ⟨⟨⟨a, b⟩, e⟩, f⟩)
  have HRF : Hid (R = true → g.roots.length = 8 ∧ g.nodes.length ≤ 1000 ∧ named g.roots g.nodes.length = true ∧ ∀ x ∈ g.nodes, ndOk x g.nodes.length = true) := Lib.hid (fun h => right_parts (hR.trans h))
  obtain ⟨W, hW⟩ : ∃ W, w.alloc (.cells #[.slice A g.roots.length c, .slice D g.nodes.length d] 25) = W := ⟨_, rfl⟩
  rw [hW] at HA HD HG HB0
  have hsz : w.heap.size < W.heap.size := HG.out.lt
  have c0 := HG.out.cell 0
  have c1 := HG.out.cell 1
  simp only [List.getElem?_toArray, List.getElem?_cons_zero, List.getElem?_cons_succ] at c0 c1
  clear hA hD hb0 hR
  by_cases h1 : g.roots.length = 8
  case neg =>
    have hb : ((g.roots.length : Int) != 8) = true := bne_iff_ne.mpr (by omega)
    have hf : R = false := by
      cases h : R with
      | false => rfl
      | true => exact absurd (HRF.out h).1 h1
    have HF := Lib.hid hf
    clear h1 hf
    go_enter Tryz.func12, Tryz.ntmps12
    go_wp2
    go_ret
    exact ⟨by rw [HF.out]; rfl, HB0.out⟩
  case pos =>
    have hb : ((g.roots.length : Int) != 8) = false := bne_eq_false_iff_eq.mpr (by omega)
    by_cases h2 : g.nodes.length ≤ 1000
    case neg =>
      have hc : decide ((g.nodes.length : Int) > 1000) = true := decide_eq_true (by omega)
      have hf : R = false := by
        cases h : R with
        | false => rfl
        | true => exact absurd (HRF.out h).2.1 h2
      have HF := Lib.hid hf
      clear h1 h2 hf
      go_enter Tryz.func12, Tryz.ntmps12
      go_wp2
      go_ret
      exact ⟨by rw [HF.out]; rfl, HB0.out⟩
    case pos =>
      have hc : decide ((g.nodes.length : Int) > 1000) = false := decide_eq_false (by omega)
      have H1 := Lib.hid h1
      have hrl : g.roots.length ≤ 8 := by omega
      clear h1
      go_enter Tryz.func12, Tryz.ntmps12
      go_wp2
      have HW := Lib.hid hW
      clear hW hb hc
      go_loopw [3] (fun i wr => ∃ (k : Nat), k ≤ g.roots.length ∧ i = .int .i64 k ∧ Hid (Below W.heap.size W wr) ∧ Hid (∀ j, (h : j < g.roots.length) → j < k → 0 ≤ g.roots[j] ∧ g.roots[j] ≤ g.nodes.length)) (fun i _ => g.roots.length - (intOf i).toNat)
      case atStart => exact ⟨0, Nat.zero_le _, rfl, Lib.hid (Below.refl _ _), Lib.hid (fun j _ hj => absurd hj (by omega))⟩
      case round =>
        obtain ⟨k, hk, rfl, HB, HE⟩ := hrel
        have b0 := (HB.out.cell (p := ⟨w.heap.size, 0, none⟩) hsz).trans c0
        have b1 := (HB.out.cell (p := ⟨w.heap.size, 1, none⟩) hsz).trans c1
        by_cases hlt : k < g.roots.length
        · obtain ⟨ad, rfl, a1⟩ := (HA.out.below HB.out).at_ k hlt
          have HV : Hid (g.roots[k] = g.roots[k]) := rfl
          have hbad : Hid (¬ (0 ≤ g.roots[k] ∧ g.roots[k] ≤ g.nodes.length) → R = false) := Lib.hid (by
            intro hn
            cases h : R with
            | false => rfl
            | true => exact absurd (named_get (HRF.out h).2.2.1 k hlt) hn)
          have hgood : Hid ((0 ≤ g.roots[k] ∧ g.roots[k] ≤ g.nodes.length) → ∀ j, (h : j < g.roots.length) → j < k + 1 → 0 ≤ g.roots[j] ∧ g.roots[j] ≤ g.nodes.length) := Lib.hid (by
            intro hg j hj hjk
            rcases Nat.lt_or_ge j k with h | h
            · exact HE.out j hj h
            · obtain rfl : j = k := by omega
              exact hg)
          generalize g.roots[k] = v at a1 hbad hgood
          rcases (by omega : v < 0 ∨ (0 ≤ v ∧ (g.nodes.length : Int) < v) ∨ (0 ≤ v ∧ v ≤ g.nodes.length)) with h | ⟨h, h3⟩ | ⟨h, h3⟩
          · have HF := Lib.hid (hbad.out (by omega))
            go_wp2_with fail
            go_quiet (fail)
            go_wp2
            go_ret
            exact ⟨by rw [HF.out]; rfl, below_drewN (below_then HB0.out HB.out) _⟩
          · have HF := Lib.hid (hbad.out (by omega))
            have q1 : decide (v < 0) = false := decide_eq_false (by omega)
            go_wp2_with fail
            go_quiet (fail)
            go_wp2
            go_ret
            exact ⟨by rw [HF.out]; rfl, below_drewN (below_then HB0.out HB.out) _⟩
          · have HF := Lib.hid (hgood.out ⟨h, h3⟩)
            have q1 : decide (v < 0) = false := decide_eq_false (by omega)
            have q2 : decide (v > (g.nodes.length : Int)) = false := decide_eq_false (by omega)
            go_wp2_with fail
            go_quiet (fail)
            go_wp2
            go_roundw
            case rel => exact ⟨k + 1, by omega, by go_num, Lib.hid (below_drewN HB.out _), HF⟩
            case measure => simp [intOf]; omega
        · have hkl : k = g.roots.length := by omega
          subst hkl
          have HNM : Hid (named g.roots g.nodes.length = true) := Lib.hid (by
            rw [named, List.all_eq_true]
            intro x hx
            obtain ⟨j, hj, rfl⟩ := List.getElem_of_mem hx
            have := HE.out j hj hj
            simp; omega)
          clear HE
          go_wp2
          go_loopw [4] (fun i wr => ∃ (m : Nat), m ≤ g.nodes.length ∧ i = .int .i64 m ∧ Hid (Below W.heap.size W wr) ∧ Hid (∀ j, (h : j < g.nodes.length) → j < m → ndOk g.nodes[j] g.nodes.length = true)) (fun i _ => g.nodes.length - (intOf i).toNat)
          case atStart => exact ⟨0, Nat.zero_le _, rfl, HB, Lib.hid (fun j _ hj => absurd hj (by omega))⟩
          case round =>
            obtain ⟨m, hm, rfl, HBm, HEm⟩ := hrel
            have e1 := (HBm.out.cell (p := ⟨w.heap.size, 1, none⟩) hsz).trans c1
            clear b0 b1
            by_cases hlt2 : m < g.nodes.length
            · obtain ⟨dd, As, cs, Bs, ds, rfl, d2, d3, i1, i2⟩ := nds_at (HD.out.below HBm.out) m hlt2
              have hbad : Hid (ndOk g.nodes[m] g.nodes.length = false → R = false) := Lib.hid (by
                intro hn
                cases h : R with
                | false => rfl
                | true =>
                  have := (HRF.out h).2.2.2 _ (List.getElem_mem hlt2)
                  rw [hn] at this; cases this)
              have hgood : Hid (ndOk g.nodes[m] g.nodes.length = true → ∀ j, (h : j < g.nodes.length) → j < m + 1 → ndOk g.nodes[j] g.nodes.length = true) := Lib.hid (by
                intro hg j hj hjk
                rcases Nat.lt_or_ge j m with h | h
                · exact HEm.out j hj h
                · obtain rfl : j = m := by omega
                  exact hg)
              generalize g.nodes[m] = x at d2 d3 i1 i2 hbad hgood
              have HI1 := Lib.hid i1
              have HI2 := Lib.hid i2
              have hsw : wr.heap.size ≥ W.heap.size := HBm.out.size
              clear i1 i2
              by_cases hs : x.slots.length ≤ 15
              case neg =>
                have q1 : decide ((x.slots.length : Int) > 15) = true := decide_eq_true (by omega)
                have HF := Lib.hid (hbad.out (by unfold ndOk; simp [hs]))
                clear hs
                go_wp2
                go_ret
                exact ⟨by rw [HF.out]; rfl, below_then (below_then HB0.out HBm.out) (below_1 _ _)⟩
              case pos =>
                have q1 : decide ((x.slots.length : Int) > 15) = false := decide_eq_false (by omega)
                by_cases hw : x.words.length ≤ 30
                case neg =>
                  have q2 : decide ((x.words.length : Int) > 30) = true := decide_eq_true (by omega)
                  have HF := Lib.hid (hbad.out (by unfold ndOk; simp [hw]))
                  clear hw
                  go_wp2
                  go_ret
                  exact ⟨by rw [HF.out]; rfl, below_then (below_then HB0.out HBm.out) (below_1 _ _)⟩
                case pos =>
                  have q2 : decide ((x.words.length : Int) > 30) = false := decide_eq_false (by omega)
                  have HX := Lib.hid (Blk.new wr 55 #[.slice As x.slots.length cs, .slice Bs x.words.length ds])
                  have HBx := Lib.hid (below_then HBm.out (below_1 wr (.cells #[.slice As x.slots.length cs, .slice Bs x.words.length ds] 55)))
                  have HJ1 := Lib.hid (HI1.out.below (below_1 wr (.cells #[.slice As x.slots.length cs, .slice Bs x.words.length ds] 55)))
                  have HJ2 := Lib.hid (HI2.out.below (below_1 wr (.cells #[.slice As x.slots.length cs, .slice Bs x.words.length ds] 55)))
                  obtain ⟨V, hV⟩ : ∃ V, wr.alloc (.cells #[.slice As x.slots.length cs, .slice Bs x.words.length ds] 55) = V := ⟨_, rfl⟩
                  rw [hV] at HX HBx HJ1 HJ2
                  obtain ⟨b5, hb5⟩ : ∃ b5, wr.heap.size = b5 := ⟨_, rfl⟩
                  rw [hb5] at HX
                  have x0 : V.cell? ⟨b5, 0, none⟩ = some (.slice As x.slots.length cs) := HX.out.cell 0
                  have x1 : V.cell? ⟨b5, 1, none⟩ = some (.slice Bs x.words.length ds) := HX.out.cell 1
                  have xz := HX.out.lt
                  have y1 := (HBx.out.cell (p := ⟨w.heap.size, 1, none⟩) hsz).trans c1
                  clear HI1 HI2
                  go_wp2
                  have HV := Lib.hid hV
                  have HB5 := Lib.hid hb5
                  clear hV q1 q2 hb5
                  go_loopw [6] (fun i wq => ∃ (p : Nat), p ≤ x.slots.length ∧ i = .int .i64 p ∧ Hid (Below V.heap.size V wq) ∧ Hid (∀ j, (h : j < x.slots.length) → j < p → 0 ≤ x.slots[j] ∧ x.slots[j] ≤ g.nodes.length)) (fun i _ => x.slots.length - (intOf i).toNat)
                  case atStart => exact ⟨0, Nat.zero_le _, rfl, Lib.hid (Below.refl _ _), Lib.hid (fun j _ hj => absurd hj (by omega))⟩
                  case round =>
                    obtain ⟨p, hp, rfl, HBp, HEp⟩ := hrel
                    have x0' := (HBp.out.cell (p := ⟨_, 0, none⟩) xz).trans x0
                    have x1' := (HBp.out.cell (p := ⟨_, 1, none⟩) xz).trans x1
                    have y1' := (HBp.out.cell (p := ⟨w.heap.size, 1, none⟩) (cell_lt y1)).trans y1
                    clear x0 x1 e1
                    by_cases hlt3 : p < x.slots.length
                    · obtain ⟨ad, rfl, a1⟩ := (HJ1.out.below HBp.out).at_ p hlt3
                      have hbd : Hid (¬ (0 ≤ x.slots[p] ∧ x.slots[p] ≤ g.nodes.length) → R = false) := Lib.hid (by
                        intro hn
                        refine hbad.out ?_
                        cases h : ndOk x g.nodes.length with
                        | false => rfl
                        | true => exact absurd (named_get (ndOk_parts h).2.2.2 p hlt3) hn)
                      have hgd : Hid ((0 ≤ x.slots[p] ∧ x.slots[p] ≤ g.nodes.length) → ∀ j, (h : j < x.slots.length) → j < p + 1 → 0 ≤ x.slots[j] ∧ x.slots[j] ≤ g.nodes.length) := Lib.hid (by
                        intro hg j hj hjk
                        rcases Nat.lt_or_ge j p with h | h
                        · exact HEp.out j hj h
                        · obtain rfl : j = p := by omega
                          exact hg)
                      generalize x.slots[p] = v at a1 hbd hgd
                      rcases (by omega : v < 0 ∨ (0 ≤ v ∧ (g.nodes.length : Int) < v) ∨ (0 ≤ v ∧ v ≤ g.nodes.length)) with h | ⟨h, h3⟩ | ⟨h, h3⟩
                      · have HF := Lib.hid (hbd.out (by omega))
                        go_wp2_with fail
                        go_quiet (fail)
                        go_wp2
                        go_ret
                        exact ⟨by rw [HF.out]; rfl, below_drewN (below_then (below_then HB0.out HBx.out) HBp.out) _⟩
                      · have HF := Lib.hid (hbd.out (by omega))
                        have q1 : decide (v < 0) = false := decide_eq_false (by omega)
                        go_wp2_with fail
                        go_quiet (fail)
                        go_wp2
                        go_ret
                        exact ⟨by rw [HF.out]; rfl, below_drewN (below_then (below_then HB0.out HBx.out) HBp.out) _⟩
                      · have HF := Lib.hid (hgd.out ⟨h, h3⟩)
                        have q1 : decide (v < 0) = false := decide_eq_false (by omega)
                        have q2 : decide (v > (g.nodes.length : Int)) = false := decide_eq_false (by omega)
                        go_wp2_with fail
                        go_quiet (fail)
                        go_wp2
                        go_roundw
                        case rel => exact ⟨p + 1, by omega, by go_num, Lib.hid (below_drewN HBp.out _), HF⟩
                        case measure => simp [intOf]; omega
                    · have hps : p = x.slots.length := by omega
                      subst hps
                      have HNS : Hid (named x.slots g.nodes.length = true) := Lib.hid (by
                        rw [named, List.all_eq_true]
                        intro y hy
                        obtain ⟨j, hj, rfl⟩ := List.getElem_of_mem hy
                        have := HEp.out j hj hj
                        simp; omega)
                      have hps : Hid (x.slots.length ≤ 15) := Lib.hid hs
                      clear HEp
                      go_wp2
                      obtain ⟨Z, hZ⟩ : ∃ Z, Z = wr := ⟨_, rfl⟩
                      subst hZ
                      go_loopw [7] (fun i wq => ∃ (p : Nat), p ≤ x.words.length ∧ i = .int .i64 p ∧ Hid (Below Z.heap.size Z wq) ∧ Hid (∀ j, (h : j < x.words.length) → j < p → 0 ≤ x.words[j] ∧ x.words[j] < 4294967296)) (fun i _ => x.words.length - (intOf i).toNat)
                      case atStart => exact ⟨0, Nat.zero_le _, rfl, Lib.hid (Below.refl _ _), Lib.hid (fun j _ hj => absurd hj (by omega))⟩
                      case round =>
                        obtain ⟨q, hq, rfl, HBq, HEq⟩ := hrel
                        have x1'' := (HBq.out.cell (p := ⟨_, 1, none⟩) (cell_lt x1')).trans x1'
                        clear x0' y1'
                        by_cases hlt4 : q < x.words.length
                        · obtain ⟨ad, rfl, a1⟩ := (HJ2.out.below (below_then HBp.out HBq.out)).at_ q hlt4
                          have hbd : Hid ((decide (0 ≤ x.words[q]) && decide (x.words[q] < 4294967296)) = false → R = false) := Lib.hid (by
                            intro hn
                            refine hbad.out ?_
                            cases h : ndOk x g.nodes.length with
                            | false => rfl
                            | true =>
                              have := List.all_eq_true.1 (ndOk_parts h).2.2.1 _ (List.getElem_mem hlt4)
                              rw [hn] at this; cases this)
                          have hgd : Hid ((decide (0 ≤ x.words[q]) && decide (x.words[q] < 4294967296)) = true → ∀ j, (h : j < x.words.length) → j < q + 1 → 0 ≤ x.words[j] ∧ x.words[j] < 4294967296) := Lib.hid (by
                            intro hg j hj hjk
                            rcases Nat.lt_or_ge j q with h | h
                            · exact HEq.out j hj h
                            · obtain rfl : j = q := by omega
                              simpa using hg)
                          have KN := fun W => number_ref x.words[q] W
                          generalize x.words[q] = v at a1 hbd hgd KN
                          cases hb : (decide (0 ≤ v) && decide (v < 4294967296)) with
                          | false =>
                            have HF := Lib.hid (hbd.out hb)
                            rw [hb] at KN
                            clear hb
                            go_wp2_with (first | (go_at_call 32; refine (KN _).mono ?_; rintro e w9 ⟨rfl, rfl⟩))
                            go_ret
                            exact ⟨by rw [HF.out]; rfl, below_then (below_then HB0.out HBx.out) (below_then HBp.out HBq.out)⟩
                          | true =>
                            have HF := Lib.hid (hgd.out hb)
                            rw [hb] at KN
                            clear hb
                            go_wp2_with (first | (go_at_call 32; refine (KN _).mono ?_; rintro e w9 ⟨rfl, rfl⟩))
                            go_roundw
                            case rel => exact ⟨q + 1, by omega, by go_num, HBq, HF⟩
                            case measure => simp [intOf]; omega
                        · have hqs : q = x.words.length := by omega
                          subst hqs
                          have HF := Lib.hid (hgood.out (by
                            unfold ndOk wordsOk
                            simp only [Bool.and_eq_true, decide_eq_true_eq, List.all_eq_true]
                            refine ⟨⟨⟨hps.out, hw⟩, fun y hy => ?_⟩, HNS.out⟩
                            obtain ⟨j, hj, rfl⟩ := List.getElem_of_mem hy
                            exact HEq.out j hj hj))
                          go_wp2
                          go_roundw
                          case rel => exact ⟨m + 1, by omega, by go_num, Lib.hid (below_then HBx.out (below_then HBp.out HBq.out)), HF⟩
                          case measure => simp [intOf]; omega
            · have hml : m = g.nodes.length := by omega
              subst hml
              have HF := Lib.hid (HRT.out H1.out h2 HNM.out (fun x hx => by
                obtain ⟨j, hj, rfl⟩ := List.getElem_of_mem hx
                exact HEm.out j hj hj))
              go_wp2
              go_ret
              exact ⟨by rw [HF.out]; rfl, below_then HB0.out HBm.out⟩

end Go.Proofs.YteminkohgagedaaGreat.Gr
