/- The statement on errors: the walk. -/
import Derived.Test.YteminkohgagedaaMoErr
namespace Go.Proofs.Yteminkohgagedaa.Mo
open Go.RowKit Go.Proofs.Yteminkohgagedaa.Base Go.Proofs.Yteminkohgagedaa.Gr Go.Proofs.Yteminkohgagedaa.Ver
set_option linter.unusedVariables false
set_option linter.unusedSimpArgs false

theorem res_cells {w : World} {z : Nat} {t : TypeId} {v0 v1 v2 v3 : Value} (h : Blk w z t #[v0, v1, v2, v3]) : w.cell? ⟨z, 0, none⟩ = some v0 ∧ w.cell? ⟨z, 1, none⟩ = some v1 ∧ w.cell? ⟨z, 2, none⟩ = some v2 ∧ w.cell? ⟨z, 3, none⟩ = some v3 ∧ z < w.heap.size := by
  have c0 := h.cell 0
  have c1 := h.cell 1
  have c2 := h.cell 2
  have c3 := h.cell 3
  simp only [List.getElem?_toArray, List.getElem?_cons_zero, List.getElem?_cons_succ] at c0 c1 c2 c3
  exact ⟨c0, c1, c2, c3, h.lt⟩
theorem gr_cells {w : World} {z : Nat} {t : TypeId} {v0 v1 : Value} (h : Blk w z t #[v0, v1]) : w.cell? ⟨z, 0, none⟩ = some v0 ∧ w.cell? ⟨z, 1, none⟩ = some v1 ∧ z < w.heap.size := by
  have c0 := h.cell 0
  have c1 := h.cell 1
  simp only [List.getElem?_toArray, List.getElem?_cons_zero, List.getElem?_cons_succ] at c0 c1
  exact ⟨c0, c1, h.lt⟩
theorem split_in {c : Int} {n : Nat} {P Q : Prop} (hk : (c < n ∧ P) ∨ (¬ c < n ∧ Q)) : (c < n ∧ P) ∨ ((n : Int) ≤ c ∧ Q) := by
  rcases hk with ⟨a, b⟩ | ⟨a, b⟩
  · exact .inl ⟨a, b⟩
  · exact .inr ⟨by omega, b⟩
theorem nodes_none (w : World) : Nodes w none [] := ⟨by simp, fun i hi => by simp at hi⟩

set_option maxRecDepth 100000 in
set_option maxHeartbeats 8000000 in
theorem errors_good (slots words op c : Int) (w : World) (hg : (0 ≤ slots ∧ slots ≤ 15 ∧ 0 ≤ words ∧ words ≤ 30 ∧ 0 ≤ c ∧ c ≤ 255)) : Calls Try.prog 7 #[.int .i64 slots, .int .i64 words, .int .i64 op, .int .i64 c] w fun e w' => e = .returned (.bool true) ∧ Below w.heap.size w w' := by
  obtain ⟨g1, g2, g3, g4, g5, g6⟩ := hg
  obtain ⟨s, rfl⟩ : ∃ s : Nat, slots = (s : Int) := ⟨slots.toNat, by omega⟩
  obtain ⟨m, rfl⟩ : ∃ m : Nat, words = (m : Int) := ⟨words.toNat, by omega⟩
  obtain ⟨p1, p2, pq⟩ := pick4 op
  have PQ := Lib.hid pq
  clear pq
  go_enter Try.func7, Try.ntmps7
  go_wp2_with fail
  refine (alive_any w).mono ?_
  rintro e w1 ⟨rfl, hb1⟩
  have HB1 := Lib.hid hb1
  clear hb1
  go_upto_region 4 with fail
  go_cut [10] (fun u wx => ∃ x : Int, u = .int .i64 x ∧ Hid (Four x) ∧ Hid (Below w.heap.size w wx))
  case first =>
    have hbx := Lib.hid (below_then HB1.out (below_1 w1 (.cells #[.int .i64 8, .int .i64 9, .int .i64 10, .int .i64 11] 3)))
    rcases PQ.out with q | q | q | q
    · go_wp2_with fail
      go_meet
      exact ⟨8, rfl, Lib.hid (.inl rfl), hbx⟩
    · go_wp2_with fail
      go_meet
      exact ⟨9, rfl, Lib.hid (.inr (.inl rfl)), hbx⟩
    · go_wp2_with fail
      go_meet
      exact ⟨10, rfl, Lib.hid (.inr (.inr (.inl rfl))), hbx⟩
    · go_wp2_with fail
      go_meet
      exact ⟨11, rfl, Lib.hid (.inr (.inr (.inr rfl))), hbx⟩
  case rest =>
    obtain ⟨x, rfl, HX, HBC⟩ := hcut
    clear p1 p2 PQ HB1
    have hx3 : (x == 10 || x == 11) = true ∨ ((x == 10) = false ∧ (x == 11) = false) := by
      rcases HX.out with rfl | rfl | rfl | rfl
      · right; exact ⟨rfl, rfl⟩
      · right; exact ⟨rfl, rfl⟩
      · left; rfl
      · left; rfl
    have HX3 := Lib.hid hx3
    clear hx3
    go_wp2_with fail
    refine (empty_any wc).mono ?_
    rintro e w2 ⟨A2, c2, rfl, hI2, hb2⟩
    have HI2 := Lib.hid hI2
    have HB2 := Lib.hid (below_then HBC.out hb2)
    clear hI2 hb2
    go_wp2_with fail
    refine (num_any 0 9 w2).mono ?_
    rintro e w3 ⟨rfl, hb3⟩
    have HB3 := Lib.hid (below_then HB2.out hb3)
    have HI3 := Lib.hid (HI2.out.below hb3)
    clear hb3 HI2
    go_wp2_with fail
    have hL := arr_blk (l := errL x c) (Blk.new w3 39 #[.int .i64 1, .int .i64 0, .int .i64 9, .int .i64 0, .int .i64 16, .int .i64 0, .int .i64 0, .int .i64 0, .int .i64 x, .int .i64 0, .int .i64 0, .int .i64 c]) rfl
    have hb3 := below_1 w3 (.cells #[.int .i64 1, .int .i64 0, .int .i64 9, .int .i64 0, .int .i64 16, .int .i64 0, .int .i64 0, .int .i64 0, .int .i64 x, .int .i64 0, .int .i64 0, .int .i64 c] 39)
    refine (run_any A2 none (some ⟨w3.heap.size, 0, none⟩) emptyG (errL x c) c2 0 3 50 (by omega) _ (HI3.out.below hb3) (nodes_none _) hL).mono ?_
    rw [errL_runs x c HX.out ⟨g5, g6⟩]
    rintro e w4 ⟨AO, cO, v, rfl, hO, hV, hb4⟩
    obtain ⟨A4, c4, B4, d4, rfl, -, -⟩ := hV
    have hbr := below_then (below_1 w4 (.cells #[.int .i64 7, .int .i64 2, .int .i64 47, .slice AO 1 cO] 32)) (below_1 _ (.cells #[.slice A4 8 c4, .slice B4 0 d4] 25))
    have HR1 := Lib.hid ((Blk.new w4 32 #[.int .i64 7, .int .i64 2, .int .i64 47, .slice AO 1 cO]).alloc (.cells #[.slice A4 8 c4, .slice B4 0 d4] 25))
    have HG1 := Lib.hid (second_blk w4 #[.int .i64 7, .int .i64 2, .int .i64 47, .slice AO 1 cO] #[.slice A4 8 c4, .slice B4 0 d4] 32 25)
    have HO1 := Lib.hid (hO.below hbr)
    have HB4 := Lib.hid (below_then HB3.out (below_then hb3 (below_then hb4 hbr)))
    clear hL hb3 hO hb4 hbr HI3
    go_wp2_with fail
    generalize hW5 : (w4.alloc (.cells #[.int .i64 7, .int .i64 2, .int .i64 47, .slice AO 1 cO] 32)).alloc (.cells #[.slice A4 8 c4, .slice B4 0 d4] 25) = w5 at HR1 HG1 HO1 HB4 ⊢
    have HW5 := Lib.hid hW5
    clear hW5
    refine (empty_any w5).mono ?_
    rintro e w6 ⟨A6, c6, rfl, hI6, hb6⟩
    have HI6 := Lib.hid hI6
    have HB6 := Lib.hid hb6
    clear hI6 hb6
    go_wp2_with fail
    refine (num_any 0 9 w6).mono ?_
    rintro e w7 ⟨rfl, hb7⟩
    have HB7 := Lib.hid (below_then HB6.out hb7)
    have HI7 := Lib.hid (HI6.out.below hb7)
    clear hb7 HI6
    go_wp2_with fail
    have hL := arr_blk (l := errM s m x c) (Blk.new w7 39 #[.int .i64 7, .int .i64 0, .int .i64 (s : Int), .int .i64 (m : Int), .int .i64 1, .int .i64 0, .int .i64 9, .int .i64 0, .int .i64 16, .int .i64 0, .int .i64 0, .int .i64 0, .int .i64 x, .int .i64 0, .int .i64 0, .int .i64 c]) rfl
    have hb7 := below_1 w7 (.cells #[.int .i64 7, .int .i64 0, .int .i64 (s : Int), .int .i64 (m : Int), .int .i64 1, .int .i64 0, .int .i64 9, .int .i64 0, .int .i64 16, .int .i64 0, .int .i64 0, .int .i64 0, .int .i64 x, .int .i64 0, .int .i64 0, .int .i64 c] 39)
    refine (run_any A6 none (some ⟨w7.heap.size, 0, none⟩) emptyG (errM s m x c) c6 0 4 50 (by omega) _ (HI7.out.below hb7) (nodes_none _) hL).mono ?_
    obtain ⟨e8, at8, g8, h8, hcase⟩ : ∃ e8 at8 g8, runM emptyG 50 (errM s m x c) = ⟨e8, at8, 46, [9], g8⟩ ∧ ((inIt s m x c ∧ e8 = 0 ∧ at8 = 4) ∨ (¬ inIt s m x c ∧ e8 = 8 ∧ at8 = 3)) := by
      by_cases hin : inIt s m x c
      · obtain ⟨g, hgr⟩ := errM_yes s m x c (by omega) (by omega) HX.out ⟨g5, g6⟩ hin
        exact ⟨0, 4, g, hgr, .inl ⟨hin, rfl, rfl⟩⟩
      · obtain ⟨g, hgr⟩ := errM_no s m x c (by omega) (by omega) HX.out ⟨g5, g6⟩ hin
        exact ⟨8, 3, g, hgr, .inr ⟨hin, rfl, rfl⟩⟩
    rw [h8]
    rintro e w8 ⟨AP, cP, v8, rfl, hP, hV8, hb8⟩
    obtain ⟨A8, c8, B8, d8, rfl, -, -⟩ := hV8
    have hbr := below_then (below_1 w8 (.cells #[.int .i64 e8, .int .i64 at8, .int .i64 46, .slice AP 1 cP] 32)) (below_1 _ (.cells #[.slice A8 g8.roots.length c8, .slice B8 g8.nodes.length d8] 25))
    have hb58 := below_then HB7.out (below_then hb7 (below_then hb8 hbr))
    have HR3 := Lib.hid ((Blk.new w8 32 #[.int .i64 e8, .int .i64 at8, .int .i64 46, .slice AP 1 cP]).alloc (.cells #[.slice A8 g8.roots.length c8, .slice B8 g8.nodes.length d8] 25))
    have HR1' := Lib.hid (HR1.out.below hb58 HR1.out.lt)
    have HG1' := Lib.hid (HG1.out.below hb58 HG1.out.lt)
    have HO1' := Lib.hid (HO1.out.below hb58)
    have HP' := Lib.hid (hP.below hbr)
    have HB8 := Lib.hid (below_then HB4.out hb58)
    have HCASE := Lib.hid hcase
    clear hL hb7 hP hb8 hbr hb58 HI7 HR1 HG1 HO1 HB4 h8 hcase
    obtain ⟨a0, a1, a2, a3, a4⟩ := res_cells HR1'.out
    obtain ⟨b0, b1, b2⟩ := gr_cells HG1'.out
    obtain ⟨d0, d1, d2, d3, d4'⟩ := res_cells HR3.out
    have hstep : ∀ w9 : World, Below ((w8.alloc (.cells #[.int .i64 e8, .int .i64 at8, .int .i64 46, .slice AP 1 cP] 32)).alloc (.cells #[.slice A8 g8.roots.length c8, .slice B8 g8.nodes.length d8] 25)).heap.size ((w8.alloc (.cells #[.int .i64 e8, .int .i64 at8, .int .i64 46, .slice AP 1 cP] 32)).alloc (.cells #[.slice A8 g8.roots.length c8, .slice B8 g8.nodes.length d8] 25)) w9 →
        Blk w9 w4.heap.size 32 #[.int .i64 7, .int .i64 2, .int .i64 47, .slice AO 1 cO] ∧ Blk w9 (w4.heap.size + 1) 25 #[.slice A4 8 c4, .slice B4 0 d4] ∧ Blk w9 w8.heap.size 32 #[.int .i64 e8, .int .i64 at8, .int .i64 46, .slice AP 1 cP] ∧ Ints w9 AP [9] ∧ Below w.heap.size w w9 := fun w9 hb =>
      ⟨HR1'.out.below hb HR1'.out.lt, HG1'.out.below hb HG1'.out.lt, HR3.out.below hb HR3.out.lt, HP'.out.below hb, below_then HB8.out hb⟩
    have HST := Lib.hid hstep
    have KA : Hid (∀ W9 : World, W9.heap.size = w8.heap.size + 1 + 1 → Ints W9 AO [9] → Calls Try.prog 21 #[.slice AO 1 cO, .slice (some ⟨w8.heap.size + 1 + 1, 0, none⟩) 1 1] (W9.alloc (.cells #[.int .i64 9] 3)) fun e w' => e = .returned (.bool true) ∧ Below (W9.alloc (.cells #[.int .i64 9] 3)).heap.size (W9.alloc (.cells #[.int .i64 9] 3)) w') := fun W9 hs hi => by
      have hB := Blk.new W9 3 #[.int .i64 9]
      rw [hs] at hB
      have := same_any AO (some ⟨w8.heap.size + 1 + 1, 0, none⟩) [9] [9] cO 1 (W9.alloc (.cells #[.int .i64 9] 3)) (hi.below (below_1 _ _)) (ints_lit hB rfl (by simp)) (by simp)
      rw [decide_eq_true (rfl : [(9 : Int)] = [9])] at this
      exact this
    have KB := Lib.hid (fun (w9 : World) h1 h2 => same_any AP (some ⟨w9.heap.size, 0, none⟩) [9] [9] cP 1 (w9.alloc (.cells #[.int .i64 9] 3)) h1 h2 (by simp))
    rw [decide_eq_true (rfl : [(9 : Int)] = [9])] at KB
    clear hstep
    have hkind : (inIt s m x c ∧ e8 = 0 ∧ at8 = 4 ∨ ¬ inIt s m x c ∧ e8 = 8 ∧ at8 = 3) := HCASE.out
    have hsplit : ((x == 10) = false ∧ (x == 11) = false ∧ ((c < s ∧ e8 = 0 ∧ at8 = 4) ∨ (s ≤ c ∧ e8 = 8 ∧ at8 = 3))) ∨ (x = 10 ∧ ((c < m ∧ e8 = 0 ∧ at8 = 4) ∨ (m ≤ c ∧ e8 = 8 ∧ at8 = 3))) ∨ (x = 11 ∧ ((c < m ∧ e8 = 0 ∧ at8 = 4) ∨ (m ≤ c ∧ e8 = 8 ∧ at8 = 3))) := by
      unfold inIt at hkind
      rcases HX.out with rfl | rfl | rfl | rfl
      · left; refine ⟨rfl, rfl, ?_⟩; simp only [Int.reduceEq, true_or, or_true, if_true] at hkind; exact split_in hkind
      · left; refine ⟨rfl, rfl, ?_⟩; simp only [Int.reduceEq, true_or, or_true, if_true] at hkind; exact split_in hkind
      · right; left; refine ⟨rfl, ?_⟩; simp only [Int.reduceEq, or_self, if_false] at hkind; exact split_in hkind
      · right; right; refine ⟨rfl, ?_⟩; simp only [Int.reduceEq, or_self, if_false] at hkind; exact split_in hkind
    clear hkind
    rcases hsplit with ⟨k1, k2, ⟨k3, rfl, rfl⟩ | ⟨k3, rfl, rfl⟩⟩ | ⟨rfl, ⟨k3, rfl, rfl⟩ | ⟨k3, rfl, rfl⟩⟩ | ⟨rfl, ⟨k3, rfl, rfl⟩ | ⟨k3, rfl, rfl⟩⟩
    all_goals
      go_wp2_with fail
      refine (KA.out _ (by simp) HO1'.out).mono ?_
      rintro e w9 ⟨rfl, hb9⟩
      have HS9 := Lib.hid (HST.out w9 (below_then (below_1 _ _) hb9))
      obtain ⟨a0, a1, a2, a3, a4⟩ := res_cells HS9.out.1
      obtain ⟨b0, b1, b2⟩ := gr_cells HS9.out.2.1
      obtain ⟨d0, d1, d2, d3, d4'⟩ := res_cells HS9.out.2.2.1
      clear hb9
      go_wp2_with fail
      refine (KB.out w9 (HS9.out.2.2.2.1.below (below_1 _ _)) (ints_lit (Blk.new w9 3 #[.int .i64 9]) rfl (by simp))).mono ?_
      rintro e w10 ⟨rfl, hb10⟩
      have HS10 := Lib.hid (below_then HS9.out.2.2.2.2 (below_then (below_1 _ _) hb10))
      clear hb10
      go_wp2_with fail
      go_ret
      exact ⟨rfl, HS10.out⟩

end Go.Proofs.Yteminkohgagedaa.Mo
