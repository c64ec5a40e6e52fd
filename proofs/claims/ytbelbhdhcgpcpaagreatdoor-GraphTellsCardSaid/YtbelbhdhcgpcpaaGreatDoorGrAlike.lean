/- Whether two graphs are alike. -/
import Derived.Test.YtbelbhdhcgpcpaaGreatDoorGrClone
import Derived.Test.YtbelbhdhcgpcpaaGreatDoorGrWalks
namespace Go.Proofs.YtbelbhdhcgpcpaaGreatDoor.Gr
open Go.RowKit Go.Proofs.YtbelbhdhcgpcpaaGreatDoor.Base
set_option linter.unusedVariables false
set_option linter.unusedSimpArgs false

theorem alike_any (A B C D : Option Addr) (x y : Nd) (a b c d : Nat) (w : World) (hA : Ints w A x.slots) (hB : Ints w B x.words) (hC : Ints w C y.slots) (hD : Ints w D y.words) :
    Calls Tryz.prog 37 #[.agg #[.slice A x.slots.length a, .slice B x.words.length b], .agg #[.slice C y.slots.length c, .slice D y.words.length d]] w fun e w' => e = .returned (.bool (decide (x = y))) ∧ Below w.heap.size w w' := by
  obtain ⟨r, hr⟩ : ∃ r, decide (x = y) = r := ⟨_, rfl⟩
  rw [hr]
  have HR := Lib.hid hr
  have HA := Lib.hid hA
  have HB := Lib.hid hB
  have HC := Lib.hid hC
  have HD := Lib.hid hD
  clear hA hB hC hD hr
  have h0 : Below w.heap.size w ((w.alloc (.cells #[.slice A x.slots.length a, .slice B x.words.length b] 45)).alloc (.cells #[.slice C y.slots.length c, .slice D y.words.length d] 45)) := (below_1 _ _).alloc (by simp) _
  have k := equal_any A C x.slots y.slots a c _ (HA.out.below h0) (HC.out.below h0)
  have H0 := Lib.hid h0
  clear h0
  cases he : decide (x.slots = y.slots)
  · rw [he] at k
    have K := Lib.hid k
    clear k
    have e : decide (x = y) = false := decide_eq_false fun e => by subst e; simp at he
    rw [HR.out] at e
    subst e
    clear he HR
    go_enter Tryz.func37, Tryz.ntmps37
    go_wp2_with fail
    refine K.out.mono ?_
    rintro e w1 ⟨rfl, hb⟩
    go_wp2
    go_ret
    exact ⟨rfl, below_box (below_box hb)⟩
  · rw [he] at k
    have K := Lib.hid k
    have HE := Lib.hid he
    clear k he
    go_enter Tryz.func37, Tryz.ntmps37
    go_wp2_with fail
    refine K.out.mono ?_
    rintro e w1 ⟨rfl, hb⟩
    have hs := hb.size
    simp at hs
    have c1 := ((Blk.new w 45 #[.slice A x.slots.length a, .slice B x.words.length b]).alloc (.cells #[.slice C y.slots.length c, .slice D y.words.length d] 45)).below hb (by simp; omega)
    have c2 := (Blk.new (w.alloc (.cells #[.slice A x.slots.length a, .slice B x.words.length b] 45)) 45 #[.slice C y.slots.length c, .slice D y.words.length d]).below hb (by simp)
    have c3 := c1.cell 1
    have c4 := c2.cell 1
    simp at c3 c4
    have HB1 := Lib.hid (below_box (below_box hb))
    clear hb c1 c2
    go_wp2_with fail
    refine (equal_any B D x.words y.words b d w1 (HB.out.below HB1.out) (HD.out.below HB1.out)).mono ?_
    rintro e w2 ⟨rfl, hb2⟩
    go_wp2
    go_ret
    refine ⟨?_, below_then HB1.out hb2⟩
    have h1 : x.slots = y.slots := of_decide_eq_true HE.out
    have : r = decide (x.words = y.words) := by
      rw [← HR.out]
      rcases x with ⟨xs, xw⟩
      rcases y with ⟨ys, yw⟩
      simp only [Nd.mk.injEq, decide_eq_decide] at *
      simp [h1]
    subst this
    rfl

set_option maxHeartbeats 2000000 in
theorem equaln_any (D E : Option Addr) (l m : List Nd) (c d : Nat) (w : World) (hD : Nodes w D l) (hE : Nodes w E m) :
    Calls Tryz.prog 36 #[.slice D l.length c, .slice E m.length d, .func (.func 37) #[] #[]] w fun e w' => e = .returned (.bool (decide (l = m))) ∧ Below w.heap.size w w' := by
  obtain ⟨r, hr⟩ : ∃ r, decide (l = m) = r := ⟨_, rfl⟩
  rw [hr]
  have HR := Lib.hid hr
  have HD := Lib.hid hD
  have HE := Lib.hid hE
  have hsz := hD.1
  clear hr hD hE
  by_cases hn : l.length = m.length
  · have hb : ((l.length : Int) != m.length) = false := bne_eq_false_iff_eq.mpr (by omega)
    have HN := Lib.hid hn
    clear hn
    go_enter Tryz.func36, Tryz.ntmps36
    go_wp2
    go_loopw [17] (fun i wr => ∃ k : Nat, k ≤ l.length ∧ i = .int .i64 k ∧ Hid (Below w.heap.size w wr) ∧ Hid (∀ j, j < k → (h1 : j < l.length) → (h2 : j < m.length) → l[j] = m[j])) (fun i _ => l.length - (intOf i).toNat)
    case atStart => exact ⟨0, Nat.zero_le _, rfl, Below.refl _ _, fun j hj => absurd hj (by omega)⟩
    case round =>
      obtain ⟨k, hk, rfl, HW, HQ⟩ := hrel
      by_cases hlt : k < l.length
      · have hlt2 : k < m.length := by have := HN.out; omega
        obtain ⟨ad, A, a, B, b, rfl, c1, c2, hA, hB⟩ := nds_at (HD.out.below HW.out) k hlt
        obtain ⟨ed, A', a', B', b', rfl, c3, c4, hA', hB'⟩ := nds_at (HE.out.below HW.out) k hlt2
        have z1 := cell_lt c1
        have z2 := cell_lt c2
        have z3 := cell_lt c3
        have z4 := cell_lt c4
        have HA := Lib.hid hA
        have HB := Lib.hid hB
        have HA' := Lib.hid hA'
        have HB' := Lib.hid hB'
        clear hA hB hA' hB'
        have hW0 : Below wr.heap.size wr ((wr.alloc (.cells #[.slice A l[k].slots.length a, .slice B l[k].words.length b] 45)).alloc (.cells #[.slice A' m[k].slots.length a', .slice B' m[k].words.length b'] 45)) := (below_1 _ _).alloc (by simp) _
        have kk := alike_any A B A' B' l[k] m[k] a b a' b' _ (HA.out.below hW0) (HB.out.below hW0) (HA'.out.below hW0) (HB'.out.below hW0)
        clear hW0
        cases he : decide (l[k] = m[k])
        · rw [he] at kk
          have K := Lib.hid kk
          clear kk
          have HF := Lib.hid he
          clear he
          go_wp2_with fail
          refine K.out.mono ?_
          rintro e w1 ⟨rfl, hb1⟩
          go_wp2
          go_ret
          refine ⟨?_, below_then HW.out (below_box (below_box hb1))⟩
          have : decide (l = m) = false := decide_eq_false fun e => by subst e; have := HF.out; simp at this
          have e := HR.out
          rw [this] at e
          subst e
          rfl
        · rw [he] at kk
          have K := Lib.hid kk
          clear kk
          have HF := Lib.hid he
          clear he
          go_wp2_with fail
          refine K.out.mono ?_
          rintro e w1 ⟨rfl, hb1⟩
          go_wp2
          go_roundw
          case rel =>
            refine ⟨k + 1, by omega, by go_num, below_then HW.out (below_box (below_box hb1)), fun j hj h1 h2 => ?_⟩
            rcases Nat.lt_or_ge j k with h | h
            · exact HQ.out j h h1 h2
            · obtain rfl : j = k := by omega
              exact of_decide_eq_true HF.out
          case measure => simp [intOf]; omega
      · go_wp2
        go_ret
        refine ⟨?_, HW.out⟩
        have : decide (l = m) = true := decide_eq_true (List.ext_getElem HN.out fun j h1 h2 => HQ.out j (by omega) h1 h2)
        have e := HR.out
        rw [this] at e
        subst e
        rfl
  · have hb : ((l.length : Int) != m.length) = true := bne_iff_ne.mpr (by omega)
    have : decide (l = m) = false := decide_eq_false fun e => hn (by rw [e])
    have e := HR.out
    rw [this] at e
    subst e
    clear this hn HR
    go_enter Tryz.func36, Tryz.ntmps36
    go_wp2
    go_ret
    exact ⟨rfl, Below.refl _ _⟩

set_option maxHeartbeats 1000000 in
theorem alikeg_any (A B C D : Option Addr) (g h : Gr) (a b c d : Nat) (w : World) (hA : Ints w A g.roots) (hB : Nodes w B g.nodes) (hC : Ints w C h.roots) (hD : Nodes w D h.nodes) :
    Calls Tryz.prog 16 #[.agg #[.slice A g.roots.length a, .slice B g.nodes.length b], .agg #[.slice C h.roots.length c, .slice D h.nodes.length d]] w fun e w' => e = .returned (.bool (decide (g = h))) ∧ Below w.heap.size w w' := by
  obtain ⟨r, hr⟩ : ∃ r, decide (g = h) = r := ⟨_, rfl⟩
  rw [hr]
  have HR := Lib.hid hr
  have HA := Lib.hid hA
  have HB := Lib.hid hB
  have HC := Lib.hid hC
  have HD := Lib.hid hD
  clear hA hB hC hD hr
  have h0 : Below w.heap.size w ((w.alloc (.cells #[.slice A g.roots.length a, .slice B g.nodes.length b] 25)).alloc (.cells #[.slice C h.roots.length c, .slice D h.nodes.length d] 25)) := (below_1 _ _).alloc (by simp) _
  have k := equal_any A C g.roots h.roots a c _ (HA.out.below h0) (HC.out.below h0)
  have H0 := Lib.hid h0
  clear h0
  cases he : decide (g.roots = h.roots)
  · rw [he] at k
    have K := Lib.hid k
    clear k
    have e : decide (g = h) = false := decide_eq_false fun e => by subst e; simp at he
    rw [HR.out] at e
    subst e
    clear he HR
    go_enter Tryz.func16, Tryz.ntmps16
    go_wp2_with fail
    refine K.out.mono ?_
    rintro e w1 ⟨rfl, hb⟩
    go_wp2
    go_ret
    exact ⟨rfl, below_box (below_box hb)⟩
  · rw [he] at k
    have K := Lib.hid k
    have HE := Lib.hid he
    clear k he
    go_enter Tryz.func16, Tryz.ntmps16
    go_wp2_with fail
    refine K.out.mono ?_
    rintro e w1 ⟨rfl, hb⟩
    have hs := hb.size
    simp at hs
    have c1 := ((Blk.new w 25 #[.slice A g.roots.length a, .slice B g.nodes.length b]).alloc (.cells #[.slice C h.roots.length c, .slice D h.nodes.length d] 25)).below hb (by simp; omega)
    have c2 := (Blk.new (w.alloc (.cells #[.slice A g.roots.length a, .slice B g.nodes.length b] 25)) 25 #[.slice C h.roots.length c, .slice D h.nodes.length d]).below hb (by simp)
    have c3 := c1.cell 1
    have c4 := c2.cell 1
    simp at c3 c4
    have HB1 := Lib.hid (below_box (below_box hb))
    clear hb c1 c2
    go_wp2_with fail
    refine (equaln_any B D g.nodes h.nodes b d w1 (HB.out.below HB1.out) (HD.out.below HB1.out)).mono ?_
    rintro e w2 ⟨rfl, hb2⟩
    go_wp2
    go_ret
    refine ⟨?_, below_then HB1.out hb2⟩
    have h1 : g.roots = h.roots := of_decide_eq_true HE.out
    have : r = decide (g.nodes = h.nodes) := by
      rw [← HR.out]
      rcases g with ⟨xs, xw⟩
      rcases h with ⟨ys, yw⟩
      simp only [Gr.mk.injEq, decide_eq_decide] at *
      simp [h1]
    subst this
    rfl


end Go.Proofs.YtbelbhdhcgpcpaaGreatDoor.Gr
