/- The statement on fuel: the walk. -/
import Derived.Test.YteminkohgagedaaMoFuel
namespace Go.Proofs.Yteminkohgagedaa.Mo
open Go.RowKit Go.Proofs.Yteminkohgagedaa.Base Go.Proofs.Yteminkohgagedaa.Gr Go.Proofs.Yteminkohgagedaa.Ver
set_option linter.unusedVariables false
set_option linter.unusedSimpArgs false

theorem res_cells {w : World} {z : Nat} {t : TypeId} {v0 v1 v2 v3 : Value} (h : Blk w z t #[v0, v1, v2, v3]) : w.cell? ⟨z, 0, none⟩ = some v0 ∧ w.cell? ⟨z, 1, none⟩ = some v1 ∧ w.cell? ⟨z, 2, none⟩ = some v2 ∧ w.cell? ⟨z, 3, none⟩ = some v3 ∧ z < w.heap.size := by
  have c0 := h.cell 0
  have c1 := h.cell 1
  have c2 := h.cell 2
  have c3 := h.cell 3
  simp only [List.getElem?_toArray, List.getElem?_cons_zero, List.getElem?_cons_succ] at c0 c1 c2 c3
  exact ⟨c0, c1, c2, c3, h.lt⟩
theorem nodes_none (w : World) : Nodes w none [] := ⟨by simp, fun i hi => by simp at hi⟩
theorem ints_take {w : World} {A : Option Addr} {l : List Int} (h : Ints w A l) {k : Nat} (hk : k ≤ l.length) : Ints w A (l.take k) := by
  have := Reads.take h.1 hk
  rw [Nat.mul_one] at this
  refine ⟨?_, by rw [List.length_take]; have := h.2; omega⟩
  show Reads w 1 A (l.take k).length (enc ic (l.take k))
  rw [List.length_take, Nat.min_eq_left hk, show enc ic (l.take k) = (enc ic l).take k by rw [enc_ic, enc_ic, List.map_take]]
  exact this

set_option maxRecDepth 100000 in
set_option maxHeartbeats 8000000 in
theorem fuel_good (A : Option Addr) (l : List Ins) (cap : Nat) (n m : Nat) (w : World) (hL : Arr w Ins.cells 4 A l) (hl : l.length ≤ 100) (hnm : n ≤ m) (hm : m ≤ 300) :
    Calls Try.prog 9 #[.slice A l.length cap, .int .i64 (n : Int), .int .i64 (m : Int)] w fun e w' => e = .returned (.bool true) ∧ Below w.heap.size w w' := by
  have HL := Lib.hid hL
  have law := fuel_law l n m hnm
  obtain ⟨X, hX⟩ : ∃ X, runM emptyG n l = X := ⟨_, rfl⟩
  obtain ⟨Y, hY⟩ : ∃ Y, runM emptyG m l = Y := ⟨_, rfl⟩
  rw [hX, hY] at law
  have LAW := Lib.hid law
  have HX := Lib.hid hX
  have HY := Lib.hid hY
  have hxo := runM_outs l n
  rw [hX] at hxo
  have hnm2 : ¬ ((m : Int) < n) := by omega
  clear hL law hX hY hnm
  go_enter Try.func9, Try.ntmps9
  go_wp2_with fail
  refine (alive_any w).mono ?_
  rintro e w1 ⟨rfl, hb1⟩
  have HB1 := Lib.hid hb1
  clear hb1
  go_wp2_with fail
  refine (empty_any w1).mono ?_
  rintro e w2 ⟨A2, c2, rfl, hI2, hb2⟩
  have HI2 := Lib.hid hI2
  have HB2 := Lib.hid (below_then HB1.out hb2)
  clear hI2 hb2
  go_wp2_with fail
  refine (run_room A2 none A emptyG l c2 0 cap n (by omega) w2 HI2.out (nodes_none _) (HL.out.below HB2.out)).mono ?_
  rw [HX.out]
  rintro e w3 ⟨AO, cO, v, rfl, hO, hV, hb3, hcO⟩
  obtain ⟨A4, c4, B4, d4, rfl, -, -⟩ := hV
  have hbr := below_then (below_1 w3 (.cells #[.int .i64 X.e, .int .i64 X.at_, .int .i64 X.left, .slice AO X.outs.length cO] 32)) (below_1 _ (.cells #[.slice A4 X.gr.roots.length c4, .slice B4 X.gr.nodes.length d4] 25))
  have HR := Lib.hid ((Blk.new w3 32 #[.int .i64 X.e, .int .i64 X.at_, .int .i64 X.left, .slice AO X.outs.length cO]).alloc (.cells #[.slice A4 X.gr.roots.length c4, .slice B4 X.gr.nodes.length d4] 25))
  have HO := Lib.hid (hO.below hbr)
  have HB3 := Lib.hid (below_then HB2.out (below_then hb3 hbr))
  clear hO hb3 hbr HI2 hcO
  go_wp2_with fail
  generalize hW4 : (w3.alloc (.cells #[.int .i64 X.e, .int .i64 X.at_, .int .i64 X.left, .slice AO X.outs.length cO] 32)).alloc (.cells #[.slice A4 X.gr.roots.length c4, .slice B4 X.gr.nodes.length d4] 25) = w4 at HR HO HB3 ⊢
  clear hW4
  refine (empty_any w4).mono ?_
  rintro e w5 ⟨A5, c5, rfl, hI5, hb5⟩
  have HI5 := Lib.hid hI5
  have HB5 := Lib.hid hb5
  clear hI5 hb5
  go_wp2_with fail
  refine (run_room A5 none A emptyG l c5 0 cap m (by omega) w5 HI5.out (nodes_none _) (HL.out.below (below_then HB3.out HB5.out))).mono ?_
  rw [HY.out]
  rintro e w6 ⟨AP, cP, v, rfl, hP, hV, hb6, hcP⟩
  obtain ⟨A7, c7, B7, d7, rfl, -, -⟩ := hV
  have hbr := below_then (below_1 w6 (.cells #[.int .i64 Y.e, .int .i64 Y.at_, .int .i64 Y.left, .slice AP Y.outs.length cP] 32)) (below_1 _ (.cells #[.slice A7 Y.gr.roots.length c7, .slice B7 Y.gr.nodes.length d7] 25))
  have hb46 := below_then HB5.out (below_then hb6 hbr)
  have HS := Lib.hid ((Blk.new w6 32 #[.int .i64 Y.e, .int .i64 Y.at_, .int .i64 Y.left, .slice AP Y.outs.length cP]).alloc (.cells #[.slice A7 Y.gr.roots.length c7, .slice B7 Y.gr.nodes.length d7] 25))
  have HP := Lib.hid (hP.below hbr)
  have HR' := Lib.hid (HR.out.below hb46 HR.out.lt)
  have HO' := Lib.hid (HO.out.below hb46)
  have HB6 := Lib.hid (below_then HB3.out hb46)
  have HCP := Lib.hid hcP
  clear hP hb6 hbr hb46 hcP HR HO HB3 HI5
  go_upto_region 5 with fail
  generalize hW7 : (w6.alloc (.cells #[.int .i64 Y.e, .int .i64 Y.at_, .int .i64 Y.left, .slice AP Y.outs.length cP] 32)).alloc (.cells #[.slice A7 Y.gr.roots.length c7, .slice B7 Y.gr.nodes.length d7] 25) = w7 at HS HP HR' HO' HB6 ⊢
  clear hW7
  obtain ⟨a0, a1, a2, a3, a4⟩ := res_cells HR'.out
  obtain ⟨d0, d1, d2, d3, d4'⟩ := res_cells HS.out
  have hxol := HO'.out.2
  by_cases hx : X.e = 11
  · obtain ⟨l1, l2, l3⟩ := LAW.out.2 hx
    have hxb : (X.e != 11) = false := by rw [hx]; rfl
    have hf : (X.left == 0) = true := by rw [l1]; rfl
    have hle : decide ((X.outs.length : Int) ≤ Y.outs.length) = true := decide_eq_true (by omega)
    have hcp := HCP.out
    have hle2 : (X.outs.length : Int) ≤ cP := by omega
    have K := same_any AO AP X.outs (Y.outs.take X.outs.length) cO cP w7.drew (HO'.out) (ints_take HP.out l2) (by omega)
    have hlen : (Y.outs.take X.outs.length).length = X.outs.length := by rw [List.length_take, Nat.min_eq_left l2]
    rw [decide_eq_true l3, hlen] at K
    have HK := Lib.hid K
    clear K l3 hlen LAW
    go_wp2_with fail
    refine wp_region_still_tail 21 (by kernel_rfl) (by kernel_rfl) ?_
    change wpStill _ _ (World.drew _) _ _ _
    simp only [List.take_succ_cons, List.take_zero, List.drop_succ_cons, List.drop_zero]
    repeat still_step
    refine wpStill_nil ?_
    change wpList _ _ _ _ _ (World.drew _)
    go_wp2_with (first | (go_at_call 21; refine HK.out.mono ?_; rintro e w8 ⟨rfl, hb8⟩; have HB8 := Lib.hid (below_then HB6.out (below_then (below_drewN (Below.refl _ w7) 1) hb8)); clear hb8))
    go_ret
    exact ⟨rfl, HB8.out⟩
  · obtain ⟨l1, l2, l3, l4⟩ := LAW.out.1 hx
    have hxb : (X.e != 11) = true := bne_iff_ne.mpr hx
    have he1 : (X.e == Y.e) = true := beq_iff_eq.mpr l1
    have he2 : (X.at_ == Y.at_) = true := beq_iff_eq.mpr l2
    have K := same_any AO AP X.outs Y.outs cO cP w7 HO'.out HP.out (by omega)
    rw [decide_eq_true l3] at K
    have HK := Lib.hid K
    have HL4 := Lib.hid l4
    clear K l4 LAW l1 l2 l3
    go_wp2_with fail
    refine HK.out.mono ?_
    rintro e w8 ⟨rfl, hb8⟩
    obtain ⟨a0, a1, a2, a3, a4⟩ := res_cells (HR'.out.below hb8 HR'.out.lt)
    obtain ⟨d0, d1, d2, d3, d4'⟩ := res_cells (HS.out.below hb8 HS.out.lt)
    have HB8 := Lib.hid (below_then HB6.out hb8)
    clear hb8
    by_cases hten : X.e = 10
    · have hb10 : (X.e == 10) = true := beq_iff_eq.mpr hten
      clear hten
      go_wp2_with fail
      go_ret
      exact ⟨rfl, HB8.out⟩
    · have hb10 : (X.e == 10) = false := beq_eq_false_iff_ne.mpr hten
      have hs : (m : Int) - Y.left = (n : Int) - X.left := by
        rcases HL4.out with h | h
        · exact absurd h hten
        · exact h
      clear hten
      go_wp2_with fail
      go_ret
      exact ⟨rfl, HB8.out⟩

end Go.Proofs.Yteminkohgagedaa.Mo
