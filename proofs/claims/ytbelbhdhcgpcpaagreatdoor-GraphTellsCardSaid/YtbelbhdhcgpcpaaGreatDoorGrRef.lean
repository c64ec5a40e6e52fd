/- flittingref16: ints, Alike. -/
import Derived.Test.YtbelbhdhcgpcpaaGreatDoorGrBoxes
import Derived.Deep.RegionLaw
namespace Go.Proofs.YtbelbhdhcgpcpaaGreatDoor.Gr
open Go.RowKit Go.Proofs.YtbelbhdhcgpcpaaGreatDoor.Base
set_option linter.unusedVariables false
set_option linter.unusedSimpArgs false

theorem refints_any (A B : Option Addr) (l m : List Int) (c d : Nat) (w : World) (hA : Ints w A l) (hB : Ints w B m) :
    Calls Tryz.prog 30 #[.slice A l.length c, .slice B m.length d] w fun e w' => e = .returned (.bool (decide (l = m))) ∧ ∃ q, w' = w.drewN q := by
  have HA := Lib.hid hA
  have HB := Lib.hid hB
  have hsz := hA.2
  clear hA hB
  obtain ⟨r, hr⟩ : ∃ r, decide (l = m) = r := ⟨_, rfl⟩
  rw [hr]
  have HR := Lib.hid hr
  clear hr
  by_cases hn : l.length = m.length
  · have hb : ((l.length : Int) != m.length) = false := bne_eq_false_iff_eq.mpr (by omega)
    have HN := Lib.hid hn
    have hle : l.length ≤ m.length := by omega
    clear hn
    go_enter Tryz.func30, Tryz.ntmps30
    go_wp2
    go_loopw [5] (fun i wr => ∃ k : Nat, k ≤ l.length ∧ i = .int .i64 k ∧ Hid (∃ q, wr = w.drewN q) ∧ Hid (∀ j, j < k → (h1 : j < l.length) → (h2 : j < m.length) → l[j] = m[j])) (fun i _ => l.length - (intOf i).toNat)
    case atStart => exact ⟨0, Nat.zero_le _, rfl, Lib.hid ⟨0, rfl⟩, fun j hj => absurd hj (by omega)⟩
    case round =>
      obtain ⟨k, hk, rfl, HW, HE⟩ := hrel
      have hAr : Ints wr A l := by obtain ⟨q, hq⟩ := HW.out; rw [hq]; exact HA.out
      have hBr : Ints wr B m := by obtain ⟨q, hq⟩ := HW.out; rw [hq]; exact HB.out
      have HD : ∀ n, Hid (∃ q, wr.drewN n = w.drewN q) := fun n => by obtain ⟨q, hq⟩ := HW.out; exact ⟨_, by rw [hq]; exact World.drewN_drewN _ _ _⟩
      have HDD := Lib.hid HD
      clear HD
      by_cases hlt : k < l.length
      · obtain ⟨ad, rfl, c1⟩ := hAr.at_ k hlt
        obtain ⟨bd, rfl, c2⟩ := hBr.at_ k (by omega)
        clear hAr hBr
        by_cases he : l[k] = m[k]
        · have hq : (l[k] != m[k]) = false := bne_eq_false_iff_eq.mpr he
          go_wp2_with (go_quiet (fail))
          all_goals
            go_roundw
            case rel =>
              refine ⟨k + 1, by omega, by go_num, HDD.out _, fun j hj h1 h2 => ?_⟩
              rcases Nat.lt_or_ge j k with h | h
              · exact HE.out j h h1 h2
              · obtain rfl : j = k := by omega
                exact he
            case measure => simp [intOf]; omega
        · have hq : (l[k] != m[k]) = true := bne_iff_ne.mpr he
          go_wp2_with (go_quiet (fail))
          all_goals
            go_ret
            refine ⟨?_, (HDD.out _).out⟩
            have : decide (l = m) = false := decide_eq_false fun e => he (by subst e; rfl)
            have e := HR.out
            rw [this] at e
            subst e
            rfl
      · go_wp2
        go_ret
        refine ⟨?_, HW.out⟩
        have : decide (l = m) = true := decide_eq_true (List.ext_getElem HN.out fun j h1 h2 => HE.out j (by omega) h1 h2)
        have e := HR.out
        rw [this] at e
        subst e
        rfl
  · have hb : ((l.length : Int) != m.length) = true := bne_iff_ne.mpr (by omega)
    have : decide (l = m) = false := decide_eq_false fun e => hn (by rw [e])
    have e := HR.out
    rw [this] at e
    subst e
    clear this hn HR
    go_enter Tryz.func30, Tryz.ntmps30
    go_wp2
    go_ret
    exact ⟨rfl, 0, rfl⟩


theorem ints_below {args : Array Value} {w : World} {b : Bool} (h : Calls Tryz.prog 30 args w fun e w' => e = .returned (.bool b) ∧ ∃ q, w' = w.drewN q) :
    Calls Tryz.prog 30 args w fun e w' => e = .returned (.bool b) ∧ Below w.heap.size w w' := h.mono fun e w' ⟨h1, q, h2⟩ => ⟨h1, by rw [h2]; exact below_drewN (Below.refl _ _) q⟩

set_option maxRecDepth 100000 in
set_option maxHeartbeats 2000000 in
theorem refalike_any (A B C D : Option Addr) (g h : Gr) (a b c d : Nat) (w : World) (hA : Ints w A g.roots) (hB : Nodes w B g.nodes) (hC : Ints w C h.roots) (hD : Nodes w D h.nodes) :
    Calls Tryz.prog 13 #[.agg #[.slice A g.roots.length a, .slice B g.nodes.length b], .agg #[.slice C h.roots.length c, .slice D h.nodes.length d]] w fun e w' => e = .returned (.bool (decide (g = h))) ∧ Below w.heap.size w w' := by
  have HB0 := Lib.hid (box_zero w #[.slice A g.roots.length a, .slice B g.nodes.length b] 25 (.cells #[.slice C h.roots.length c, .slice D h.nodes.length d] 25))
  have HX0 := Lib.hid (Boxes.new w (.slice A g.roots.length a) (.slice B g.nodes.length b) (.slice C h.roots.length c) (.slice D h.nodes.length d))
  have HB := Lib.hid hB
  have HD := Lib.hid hD
  have hbl := hB.1
  have hdl := hD.1
  have k1 := ints_below (refints_any A C g.roots h.roots a c _ (hA.below HB0.out) (hC.below HB0.out))
  obtain ⟨x1, x2, x3, x4⟩ := HX0.out.cells
  clear hA hB hC hD
  by_cases hr : g.roots = h.roots
  · rw [decide_eq_true hr] at k1
    have HK1 := Lib.hid k1
    by_cases hn : g.nodes.length = h.nodes.length
    · have hnb : ((g.nodes.length : Int) != h.nodes.length) = false := bne_eq_false_iff_eq.mpr (by omega)
      have HR := Lib.hid hr
      have HN := Lib.hid hn
      have hn' : g.nodes.length ≤ h.nodes.length := by omega
      obtain ⟨r, hrr⟩ : ∃ r, decide (g = h) = r := ⟨_, rfl⟩
      rw [hrr]
      have HRR := Lib.hid hrr
      clear hr hn k1 hrr
      go_enter Tryz.func13, Tryz.ntmps13
      go_wp2_with fail
      refine HK1.out.mono ?_
      rintro e w1 ⟨rfl, hb⟩
      have HB1 := Lib.hid (below_then HB0.out hb)
      have HX1 := Lib.hid (HX0.out.below hb)
      obtain ⟨y1, y2, y3, y4⟩ := HX1.out.cells
      clear hb
      go_wp2_with fail
      go_loopw [5] (fun i wr => ∃ (k : Nat), k ≤ g.nodes.length ∧ i = .int .i64 k ∧ Hid (Below w.heap.size w wr) ∧ Hid (Boxes wr w.heap.size (.slice A g.roots.length a) (.slice B g.nodes.length b) (.slice C h.roots.length c) (.slice D h.nodes.length d)) ∧
        Hid (∀ j, j < k → (h1 : j < g.nodes.length) → (h2 : j < h.nodes.length) → g.nodes[j] = h.nodes[j])) (fun i _ => g.nodes.length - (intOf i).toNat)
      case atStart => exact ⟨0, Nat.zero_le _, rfl, HB1, HX1, Lib.hid (fun j hj => absurd hj (by omega))⟩
      case round =>
        obtain ⟨k, hk, rfl, HB2, HX2, HE⟩ := hrel
        clear y1 y2 y3 y4
        obtain ⟨y1, y2, y3, y4⟩ := HX2.out.cells
        by_cases hlt : k < g.nodes.length
        · have hlt2 : k < h.nodes.length := by omega
          obtain ⟨dd, As, cs, Bs, ds, rfl, d2, d3, i1, i2⟩ := nds_at (HB.out.below HB2.out) k hlt
          obtain ⟨ee, Cs, es, Ds, fs, rfl, d4, d5, i3, i4⟩ := nds_at (HD.out.below HB2.out) k hlt2
          have HX := Lib.hid (show ∀ (e : g.nodes[k] = h.nodes[k]), ∀ j, j < k + 1 → (h1 : j < g.nodes.length) → (h2 : j < h.nodes.length) → g.nodes[j] = h.nodes[j] from fun e j hj h1 h2 => by
            rcases Nat.lt_or_ge j k with h | h
            · exact HE.out j h h1 h2
            · obtain rfl : j = k := by omega
              exact e)
          have HNE := Lib.hid (show g.nodes[k] ≠ h.nodes[k] → r = false from fun e => by rw [← HRR.out]; exact decide_eq_false (fun e2 => e (by subst e2; rfl)))
          generalize g.nodes[k] = x at d2 d3 i1 i2 HX HNE
          generalize h.nodes[k] = y at d4 d5 i3 i4 HX HNE
          have HK2 := Lib.hid (fun n : Nat => refints_any As Cs x.slots y.slots cs es (wr.drewN n) i1 i3)
          have HK3 := Lib.hid (fun n : Nat => refints_any Bs Ds x.words y.words ds fs (wr.drewN n) i2 i4)
          have z2 := cell_lt d2
          have z3 := cell_lt d3
          have z4 := cell_lt d4
          have z5 := cell_lt d5
          clear i1 i2 i3 i4 x1 x2 x3 x4
          by_cases hs : x.slots = y.slots
          · rw [decide_eq_true hs] at HK2
            by_cases hw : x.words = y.words
            · rw [decide_eq_true hw] at HK3
              have HXY := Lib.hid (show x = y by cases x; cases y; simp_all)
              clear hs hw
              go_wp2_with fail
              go_quiet (first | (go_at_call 30; with_reducible exact Calls.quiet_of (HK2.out _)) | (go_at_call 30; with_reducible exact Calls.quiet_of (HK3.out _)))
              go_wp2
              go_roundw
              case rel => exact ⟨k + 1, by omega, by go_num, Lib.hid (below_drewN HB2.out _), Lib.hid (HX2.out.below (below_drewN (Below.refl _ _) _)), Lib.hid (HX.out HXY.out)⟩
              case measure => simp [intOf]; omega
            · rw [decide_eq_false hw] at HK3
              have HXY := Lib.hid (show x ≠ y from fun e => hw (by rw [e]))
              clear hs hw
              go_wp2_with fail
              go_quiet (first | (go_at_call 30; with_reducible exact Calls.quiet_of (HK2.out _)) | (go_at_call 30; with_reducible exact Calls.quiet_of (HK3.out _)))
              go_wp2
              go_ret
              refine ⟨?_, below_drewN HB2.out _⟩
              rw [HNE.out HXY.out]
              rfl
          · rw [decide_eq_false hs] at HK2
            have HXY := Lib.hid (show x ≠ y from fun e => hs (by rw [e]))
            clear hs
            go_wp2_with fail
            go_quiet ((go_at_call 30; with_reducible exact Calls.quiet_of (HK2.out _)))
            go_wp2
            go_ret
            refine ⟨?_, below_drewN HB2.out _⟩
            rw [HNE.out HXY.out]
            rfl
        · have hkl : k = g.nodes.length := by omega
          have he : r = true := by
            rw [← HRR.out]
            refine decide_eq_true ?_
            have h1 : g.nodes = h.nodes := List.ext_getElem HN.out fun j h1 h2 => HE.out j (by omega) h1 h2
            have h2 := HR.out
            cases g; cases h; simp_all
          have HE' := Lib.hid he
          clear he
          go_wp2_with fail
          go_ret
          refine ⟨?_, HB2.out⟩
          rw [HE'.out]
          rfl
    · have hnb : ((g.nodes.length : Int) != h.nodes.length) = true := bne_iff_ne.mpr (by omega)
      have hf : decide (g = h) = false := decide_eq_false (fun e => hn (by rw [e]))
      rw [hf]
      clear hr hn k1 hf
      go_enter Tryz.func13, Tryz.ntmps13
      go_wp2_with fail
      refine HK1.out.mono ?_
      rintro e w1 ⟨rfl, hb⟩
      have HB1 := Lib.hid (below_then HB0.out hb)
      have HX1 := Lib.hid (HX0.out.below hb)
      obtain ⟨y1, y2, y3, y4⟩ := HX1.out.cells
      clear hb
      go_wp2_with fail
      go_ret
      exact ⟨rfl, HB1.out⟩
  · rw [decide_eq_false hr] at k1
    have HK1 := Lib.hid k1
    have hf : decide (g = h) = false := decide_eq_false (fun e => hr (by rw [e]))
    rw [hf]
    clear hr k1 hf
    go_enter Tryz.func13, Tryz.ntmps13
    go_wp2_with fail
    refine HK1.out.mono ?_
    rintro e w1 ⟨rfl, hb⟩
    have HB1 := Lib.hid (below_then HB0.out hb)
    clear hb
    go_wp2_with fail
    go_ret
    exact ⟨rfl, HB1.out⟩

end Go.Proofs.YtbelbhdhcgpcpaaGreatDoor.Gr
