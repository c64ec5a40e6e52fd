/- model.Peak. -/
import Derived.Test.YteminkohgagedaaMoExecP
namespace Go.Proofs.Yteminkohgagedaa.Mo
open Go.RowKit Go.Proofs.Yteminkohgagedaa.Base Go.Proofs.Yteminkohgagedaa.Gr Go.Proofs.Yteminkohgagedaa.Ver
set_option linter.unusedVariables false
set_option linter.unusedSimpArgs false

def peakM (g : Gr) (F : Nat) (l : List Ins) : Nat := if (chk l).2 = 0 ∧ right g = true then peakGo l F (start g g) (reach g []) else 0

theorem cell_set {w : World} {a p : Addr} {u v : Value} (h : w.cell? a = some v) (hne : a.block ≠ p.block) : (w.setCell p u).cell? a = some v := by
  have := Below.heap_setCell w p u a.block hne
  unfold World.cell? at h ⊢
  rw [this]; exact h
theorem cell_all {w : World} {a : Addr} {o : Obj} {v : Value} (h : w.cell? a = some v) : (w.alloc o).cell? a = some v := ((below_1 w o).cell (cell_lt h)).trans h
theorem below_1d (w : World) (o : Obj) : Below w.heap.size w (w.alloc o).drew := below_drewN (below_1 w o) 1
/-- The heap that Peak makes, wherever its variable lies. -/
theorem peak_heap {w2 w3 w4 w5 : World} {t1 t2 : Nat → Tag} {A1 D1 A2 D2 : Option Addr} {c1 d1 c2 d2 : Nat} {x1 x2 : List Value} {g : Gr} {lo1 lo2 pq : Nat}
    (h1 : GM w3 t1 false A1 c1 D1 d1 x1 g) (l1 : ∀ k, t1 k ≠ .other → lo1 ≤ k) (hlo : w2.heap.size ≤ lo1) (hlo1 : lo1 ≤ w3.heap.size) (b34 : Below w3.heap.size w3 w4)
    (h2 : GM w4 t2 true A2 c2 D2 d2 x2 g) (l2 : ∀ k, t2 k ≠ .other → lo2 ≤ k) (hlo2 : w3.heap.size ≤ lo2) (m45 : Mod (fun k => k = pq) w4 w5)
    (hpq : pq < lo1 ∨ (w3.heap.size ≤ pq ∧ pq < lo2) ∨ w4.heap.size ≤ pq) (hne : pq ≠ w5.heap.size) :
    ∃ o, HM (w5.alloc (.cells #[.slice A1 g.roots.length c1, .slice D1 g.nodes.length d1, .slice A2 g.roots.length c2, .slice D2 g.nodes.length d2] 62)) o w2.heap.size w5.heap.size g g ∧ o pq = .other := by
  have s34 := b34.size
  have s45 := m45.size
  have hb5 := below_1 w5 (.cells #[.slice A1 g.roots.length c1, .slice D1 g.nodes.length d1, .slice A2 g.roots.length c2, .slice D2 g.nodes.length d2] 62)
  have o1 : pq < w3.heap.size → t1 pq = .other := fun hk => by
    cases e : t1 pq with
    | other => rfl
    | _ => have := l1 pq (by rw [e]; exact fun h => by cases h); omega
  have o2 : pq < w4.heap.size → t2 pq = .other := fun hk => by
    cases e : t2 pq with
    | other => rfl
    | _ => have := l2 pq (by rw [e]; exact fun h => by cases h); omega
  have M3 : Mod (fun k => k = pq) w3 (w5.alloc (.cells #[.slice A1 g.roots.length c1, .slice D1 g.nodes.length d1, .slice A2 g.roots.length c2, .slice D2 g.nodes.length d2] 62)) :=
    Mod.trans (Mod.trans (Mod.of_below b34) m45 (fun _ _ e => e)) (Mod.of_below (S := fun _ => False) hb5) (fun _ _ e => e.elim)
  have M4 : Mod (fun k => k = pq) w4 (w5.alloc (.cells #[.slice A1 g.roots.length c1, .slice D1 g.nodes.length d1, .slice A2 g.roots.length c2, .slice D2 g.nodes.length d2] 62)) :=
    Mod.trans m45 (Mod.of_below (S := fun _ => False) hb5) (fun _ _ e => e.elim)
  refine ⟨fun k => if k < w3.heap.size then t1 k else if k < w4.heap.size then t2 k else if k = w5.heap.size then .heap else .other, ⟨A1, c1, D1, d1, x1, A2, c2, D2, d2, x2, ?_, ?_, ?_, ?_, fun k hk e => ?_, Nat.le_trans hlo (Nat.le_trans hlo1 (Nat.le_trans s34 (Nat.le_trans s45 hb5.size)))⟩, ?_⟩
  · exact Blk.new w5 62 #[.slice A1 g.roots.length c1, .slice D1 g.nodes.length d1, .slice A2 g.roots.length c2, .slice D2 g.nodes.length d2]
  · show (if w5.heap.size < w3.heap.size then t1 w5.heap.size else if w5.heap.size < w4.heap.size then t2 w5.heap.size else if w5.heap.size = w5.heap.size then Tag.heap else Tag.other) = Tag.heap
    rw [if_neg (by omega), if_neg (by omega), if_pos rfl]
  · exact h1.mod M3 (fun k hk e => by subst e; rw [o1 hk]; exact fun h => by cases h) (fun k hk => if_pos hk)
  · have q : GM w4 (fun k => if k < w3.heap.size then .other else t2 k) true A2 c2 D2 d2 x2 g := h2.retag (fun k hk => if_neg (by have := l2 k hk; omega))
    refine (q.mod (S := fun k => k = pq) (o' := fun k => if k < w3.heap.size then .other else if k < w4.heap.size then t2 k else .other) M4 (fun k hk e => ?_) (fun k hk => ?_)).retag (fun k hk => ?_)
    · subst e
      by_cases h : k < w3.heap.size
      · simp only [h, if_true]; exact fun h => by cases h
      · simp only [h, if_false]; rw [o2 hk]; exact fun h => by cases h
    · by_cases h : k < w3.heap.size
      · simp [h]
      · simp [h, hk]
    · by_cases h : k < w3.heap.size
      · simp [h] at hk
      · simp only [h, if_false] at hk ⊢
        by_cases h' : k < w4.heap.size
        · simp [h']
        · simp [h'] at hk
  · by_cases h : k < w3.heap.size
    · simp only [h, if_true] at e; exact Nat.le_trans hlo (l1 k e)
    · omega
  · show (if pq < w3.heap.size then t1 pq else if pq < w4.heap.size then t2 pq else if pq = w5.heap.size then Tag.heap else Tag.other) = Tag.other
    by_cases h : pq < w3.heap.size
    · rw [if_pos h]; exact o1 h
    · rw [if_neg h]
      by_cases h' : pq < w4.heap.size
      · rw [if_pos h']; exact o2 h'
      · rw [if_neg h', if_neg hne]
theorem blk_at {w : World} {t : TypeId} {cs : Array Value} {n : Nat} (h : w.heap.size = n) : Blk (w.alloc (.cells cs t)) n t cs := h ▸ Blk.new w t cs
theorem bcell {W w1 : World} (hb : Below W.heap.size W w1) : (∀ b o, b < W.heap.size → w1.cell? ⟨b, o, none⟩ = W.cell? ⟨b, o, none⟩) ∧ (∀ b o, b < W.heap.size → w1.frozen? ⟨b, o, none⟩ = W.frozen? ⟨b, o, none⟩) ∧ W.heap.size ≤ w1.heap.size :=
  ⟨fun b o h => hb.cell (p := ⟨b, o, none⟩) h, fun b o h => hb.frozen (p := ⟨b, o, none⟩) h, hb.size⟩
set_option maxRecDepth 100000 in
set_option maxHeartbeats 8000000 in
theorem peak_any (A D AL : Option Addr) (g : Gr) (l : List Ins) (c d cl : Nat) (F : Nat) (hF : F ≤ 50000) (w : World) (hA : Ints w A g.roots) (hD : Nodes w D g.nodes) (hL : Arr w Ins.cells 4 AL l) :
    Calls Try.prog 24 #[.agg #[.slice A g.roots.length c, .slice D g.nodes.length d], .int .i64 (F : Int), .slice AL l.length cl] w fun e w' => e = .returned (.int .i64 (peakM g F l : Nat)) ∧ Below w.heap.size w w' := by
  have hb0 := below_1 w (.cells #[.slice A g.roots.length c, .slice D g.nodes.length d] 25)
  have HB0 := Lib.hid hb0
  have KC := Lib.hid (check_any AL l cl _ (hL.below hb0))
  have HA := Lib.hid hA
  have HD := Lib.hid hD
  have HL := Lib.hid hL
  have HG0 := Lib.hid (Blk.new w 25 #[.slice A g.roots.length c, .slice D g.nodes.length d])
  have HRUN : Hid (∃ x, peakM g F l = x) := ⟨_, rfl⟩
  obtain ⟨X, hX⟩ := HRUN.out
  rw [hX]
  have HXX := Lib.hid hX
  clear hA hD hL hb0 hX HRUN
  go_enter Try.func24, Try.ntmps24
  go_wp2_with fail
  refine KC.out.mono ?_
  rintro e w1 ⟨rfl, hb1⟩
  have HB1 := Lib.hid (below_then HB0.out hb1)
  have HG1 := Lib.hid (HG0.out.below hb1 HG0.out.lt)
  have x0 := HG1.out.cell 0
  have x1 := HG1.out.cell 1
  have zg := HG1.out.lt
  simp only [List.getElem?_toArray, List.getElem?_cons_zero, List.getElem?_cons_succ] at x0 x1
  obtain ⟨cw, hcw⟩ : ∃ cw, (chk l).1 = cw := ⟨_, rfl⟩
  obtain ⟨ce, hce⟩ : ∃ ce, (chk l).2 = ce := ⟨_, rfl⟩
  rw [hcw, hce]
  have HC1 := Lib.hid hcw
  have HC2 := Lib.hid hce
  clear hcw hce hb1 KC HB0 HG0
  by_cases hc0 : ce = 0
  · have hcb : (ce != 0) = false := by rw [hc0]; rfl
    have KR := Lib.hid (right_any A D g c d _ (HA.out.below HB1.out) (HD.out.below HB1.out))
    cases hr : right g with
    | false =>
      go_wp2_with (first | (go_at_call 27; refine KR.out.mono ?_; rintro e w2 ⟨rfl, hb2⟩; have HB2 := Lib.hid (below_then HB1.out hb2); rw [hr]))
      go_ret
      refine ⟨?_, HB2.out⟩
      rw [← HXX.out, peakM, if_neg (by rw [hr]; simp)]
      rfl
    | true =>
      obtain ⟨hl0, hll, hok, hchk⟩ := chk_ok (l := l) (by rw [HC2.out]; exact hc0)
      have HOK := Lib.hid hok
      have hfit := sound_right hr
      have HS := Lib.hid hfit
      have HC0 := Lib.hid hc0
      have HRR := Lib.hid hr
      clear hok hchk hfit hc0
      go_wp2_with (first | (go_at_call 27; refine KR.out.mono ?_; rintro e w2 ⟨rfl, hb2⟩; have HB2 := Lib.hid (below_then HB1.out hb2); have HG2 := Lib.hid (HG1.out.below hb2 HG1.out.lt); rw [hr]; clear hb2))
      have hbw2 := below_drewN HB2.out 1
      have HBD := Lib.hid hbw2
      have y0 := HG2.out.cell 0
      have y1 := HG2.out.cell 1
      have zg2 := HG2.out.lt
      simp only [List.getElem?_toArray, List.getElem?_cons_zero, List.getElem?_cons_succ] at y0 y1
      clear hbw2 x0 x1 zg
      go_upto_region 4 with fail
      go_cut [9] (fun u wx => ∃ (o : Nat → Tag) (pq hp : Nat), u = .pointer (some ⟨pq, 0, none⟩) ∧ Hid (HM wx o w2.heap.size hp g g) ∧ Hid (Blk wx pq 60 #[.pointer (some ⟨hp, 0, none⟩)]) ∧ Hid (o pq = .other) ∧ Hid (w2.heap.size ≤ pq) ∧ Hid (Below w2.heap.size w2 wx))
      case first =>
        go_region_held3 (fun W => W.cell? ⟨w.heap.size, 0, none⟩ = some (.slice A g.roots.length c) ∧ W.cell? ⟨w.heap.size, 1, none⟩ = some (.slice D g.nodes.length d))
          (first
            | exact hcs
            | exact ⟨cell_all (cell_set hcs.1 (by simp; omega)), cell_all (cell_set hcs.2 (by simp; omega))⟩
            | exact ⟨cell_set (cell_all hcs.1) (by simp; omega), cell_set (cell_all hcs.2) (by simp; omega)⟩
            | exact ⟨cell_set (cell_all (cell_all hcs.1)) (by simp; omega), cell_set (cell_all (cell_all hcs.2)) (by simp; omega)⟩
            | exact ⟨(below_then (below_drewN (Below.refl _ w2) 1) (below_1 _ _)).cell (cell_lt y0) |>.trans y0, (below_then (below_drewN (Below.refl _ w2) 1) (below_1 _ _)).cell (cell_lt y1) |>.trans y1⟩
            | exact ⟨((below_1 _ _).cell (cell_lt hcs.1)).trans hcs.1, ((below_1 _ _).cell (cell_lt hcs.2)).trans hcs.2⟩
            | go_keep)
          (first
            | (go_at_call 29; revert hg1; intro hg1; refine (own_any true A D g c d _ (HA.out.below (by first | exact hbw3.out | exact below_then hbw3.out (below_1 _ _))) (HD.out.below (by first | exact hbw3.out | exact below_then hbw3.out (below_1 _ _))) (by rw [HS.out.roots]; omega) (Nat.le_trans HS.out.size (by omega)) (sound_small HS.out)).mono ?_; rintro e w4 ⟨t2, A2, c2, D2, d2, y2, rfl, hg2', ht2', hbo2'⟩; have hg2 := Lib.hid hg2'; have ht2 := Lib.hid ht2'; have hbo2 := Lib.hid hbo2'; have hq5 := hbo2'.size; (try simp only [World.size_alloc] at hq5); (try have hz7 : w2.heap.size < w4.heap.size := by omega); (try have hz8 : w3.heap.size < w4.heap.size := by omega); (try (have hx3 := (hbo2'.cell (p := ⟨w2.heap.size, 0, none⟩) (cell_lt hx1)).trans hx1; have hx4 := (hbo2'.frozen (p := ⟨w2.heap.size, 0, none⟩) (cell_lt hx1)).trans hx2)); (try (have hx5 := (hbo2'.cell (p := ⟨w3.heap.size, 0, none⟩) (by simp)).trans (Blk.cell (Blk.new w3 60 #[.pointer none]) 0); have hx6 := (hbo2'.frozen (p := ⟨w3.heap.size, 0, none⟩) (by simp)).trans (Blk.frozen (Blk.new w3 60 #[.pointer none]) 0))); clear hg2' ht2' hbo2'; have hcs := (show w4.cell? ⟨w.heap.size, 0, none⟩ = some (.slice A g.roots.length c) ∧ w4.cell? ⟨w.heap.size, 1, none⟩ = some (.slice D g.nodes.length d) from (by first | exact ⟨(hbo2.out.cell (cell_lt hcs.1)).trans hcs.1, (hbo2.out.cell (cell_lt hcs.2)).trans hcs.2⟩ | exact ⟨((below_then (below_1 _ _) hbo2.out).cell (cell_lt hcs.1)).trans hcs.1, ((below_then (below_1 _ _) hbo2.out).cell (cell_lt hcs.2)).trans hcs.2⟩)))
            | (go_at_call 29; refine (own_any false A D g c d _ (HA.out.below (by first | exact HBD.out | exact below_then HBD.out (below_1 _ _))) (HD.out.below (by first | exact HBD.out | exact below_then HBD.out (below_1 _ _))) (by rw [HS.out.roots]; omega) (Nat.le_trans HS.out.size (by omega)) (sound_small HS.out)).mono ?_; rintro e w3 ⟨t1, A1, c1, D1, d1, yy1, rfl, hg1', ht1', hbo1'⟩; have hg1 := Lib.hid hg1'; have ht1 := Lib.hid ht1'; have hbw3 := Lib.hid (show Below w.heap.size w w3 from (by first | exact below_then HBD.out hbo1' | exact below_then HBD.out (below_then (below_1 _ _) hbo1'))); have hbo1 := Lib.hid hbo1'; have hq6 : w2.heap.size ≤ w3.heap.size := (below_then (show Below w2.heap.size w2 _ from (by first | exact below_drewN (Below.refl _ _) 1 | exact below_1d _ _)) hbo1').size; (try have hz9 : w2.heap.size < w3.heap.size := (by have := hbo1'.size; simp at this; omega)); (try (have hx1 := (hbo1'.cell (p := ⟨w2.heap.size, 0, none⟩) (by simp)).trans (Blk.cell (Blk.new (World.drew w2) 60 #[.pointer none]) 0); have hx2 := (hbo1'.frozen (p := ⟨w2.heap.size, 0, none⟩) (by simp)).trans (Blk.frozen (Blk.new (World.drew w2) 60 #[.pointer none]) 0))); clear hg1' ht1' hbo1'; have hcs := (show w3.cell? ⟨w.heap.size, 0, none⟩ = some (.slice A g.roots.length c) ∧ w3.cell? ⟨w.heap.size, 1, none⟩ = some (.slice D g.nodes.length d) from (by first | exact ⟨(hbo1.out.cell (cell_lt y0)).trans y0, (hbo1.out.cell (cell_lt y1)).trans y1⟩ | exact ⟨((below_then (below_1d _ _) hbo1.out).cell (cell_lt y0)).trans y0, ((below_then (below_1d _ _) hbo1.out).cell (cell_lt y1)).trans y1⟩))))
        · go_wp2_with fail
          go_meet
          obtain ⟨o, hh, ho⟩ := peak_heap (w2 := w2) (pq := w4.heap.size + 1) hg1.out ht1.out (Nat.le_refl _) hbo1.out.size hbo2.out hg2.out ht2.out (Nat.le_refl _) (Mod.refl _ w4) (by omega) (by omega)
          exact ⟨o, w4.heap.size + 1, w4.heap.size, rfl, Lib.hid (hh.below (below_1 _ _)), Lib.hid (blk_at (by simp)), Lib.hid ho, Lib.hid (by omega), Lib.hid (below_then (below_then (below_drewN (Below.refl _ w2) 1) (below_then hbo1.out hbo2.out)) (below_then (below_1 w4 _) (below_1 _ _)))⟩
        · go_wp2_with fail
          go_meet
          obtain ⟨o, hh, ho⟩ := peak_heap (w2 := w2) (w5 := w4.alloc (.cells #[.pointer (some ⟨w4.heap.size + 1, 0, none⟩)] 60)) (pq := w4.heap.size) hg1.out ht1.out (Nat.le_refl _) hbo1.out.size hbo2.out hg2.out ht2.out (Nat.le_refl _) (Mod.of_below (below_1 w4 _)) (by omega) (by simp)
          exact ⟨o, w4.heap.size, w4.heap.size + 1, rfl, Lib.hid (by simpa using hh), Lib.hid ((Blk.new w4 _ _).alloc _), Lib.hid ho, Lib.hid (by omega), Lib.hid (below_then (below_then (below_drewN (Below.refl _ w2) 1) (below_then hbo1.out hbo2.out)) (below_then (below_1 w4 _) (below_1 _ _)))⟩
        · go_wp2_with fail
          go_meet
          have hs3 := hbo2.out.size
          simp only [World.size_alloc] at hs3
          obtain ⟨o, hh, ho⟩ := peak_heap (w2 := w2) (w5 := w4.setCell ⟨w3.heap.size, 0, none⟩ (.pointer (some ⟨w4.heap.size, 0, none⟩))) (pq := w3.heap.size) hg1.out ht1.out (Nat.le_refl _) hbo1.out.size (below_then (below_1 w3 _) hbo2.out) hg2.out ht2.out (by simp) (mod_set' (S := fun k => k = w3.heap.size) (Mod.refl _ w4) rfl _) (.inr (.inl ⟨Nat.le_refl _, by simp⟩)) (by simp; omega)
          exact ⟨o, w3.heap.size, w4.heap.size, rfl, Lib.hid (by simpa using hh), Lib.hid ((((Blk.new w3 60 #[.pointer none]).below hbo2.out (by simp)).set_ 0 _).alloc _), Lib.hid ho, Lib.hid hq6, Lib.hid ((below_then (below_then (below_drewN (Below.refl _ w2) 1) (below_then hbo1.out (below_then (below_1 w3 _) hbo2.out))) (Below.refl _ w4)).setCell hq6 _ |>.trans ((below_1 _ _).mono (by simp; omega)))⟩
        · go_wp2_with fail
          go_meet
          have hs2 := hbo1.out.size
          have hs3 := hbo2.out.size
          have hs2' : w2.heap.size + 1 ≤ w3.heap.size := by simpa using hs2
          obtain ⟨o, hh, ho⟩ := peak_heap (w2 := w2) (w5 := w4.setCell ⟨w2.heap.size, 0, none⟩ (.pointer (some ⟨w4.heap.size, 0, none⟩))) (pq := w2.heap.size) hg1.out ht1.out (by simp) hbo1.out.size hbo2.out hg2.out ht2.out (Nat.le_refl _) (mod_set' (S := fun k => k = w2.heap.size) (Mod.refl _ w4) rfl _) (.inl (by simp)) (by simp; omega)
          exact ⟨o, w2.heap.size, w4.heap.size, rfl, Lib.hid (by simpa using hh), Lib.hid (((((Blk.new w2 60 #[.pointer none]).drewN 1).below (below_then hbo1.out hbo2.out) (by simp)).set_ 0 _).alloc _), Lib.hid ho, Lib.hid (Nat.le_refl _), Lib.hid ((below_then (below_1d w2 _) (below_then hbo1.out hbo2.out)).setCell (Nat.le_refl _) _ |>.trans ((below_1 _ _).mono (by simp; omega)))⟩
      case rest =>
        obtain ⟨o, pq, hp, rfl, HH, HPQ, HO, HLQ, HBW⟩ := hcut
        have hh0 : HM wc (norm wc.heap.size o) w2.heap.size hp g g := HH.out.keep (Mod.refl (fun _ => False) wc) (fun _ _ h => h.elim) (fun k hk => norm_lt hk) (fun k hk hk' _ => by omega)
        have q0 := HPQ.out.cell 0
        have q1 := HPQ.out.lt
        simp only [List.getElem?_toArray, List.getElem?_cons_zero] at q0
        have KR1 := Lib.hid (reached_any hh0 HS.out (show 1000 ≤ 90000 by omega) none [] 0 (Ints.nil _) (by simp [named]) (by simp))
        have HH0 := Lib.hid hh0
        have HNO := Lib.hid (show norm wc.heap.size o pq = .other by rw [norm_lt q1]; exact HO.out)
        have hbs := HBW.out.size
        clear hh0
        go_wp2_with (first | (go_at_call 34; refine KR1.out.mono ?_; rintro e w5 ⟨rfl, hb5⟩; have HB5 := Lib.hid hb5; have q2 := hb5.size; have q3 := (hb5.cell (p := ⟨pq, 0, none⟩) q1).trans q0; have q4 : pq < w5.heap.size := Nat.lt_of_lt_of_le q1 q2; clear hb5))
        have HB7 := Lib.hid (below_then (below_1 w5 (.cells #[.int .i64 ((reach g [] : Nat) : Int)] 3)) (below_1 _ (.cells #[.nilFunc, .func (.func 35) #[] #[.pointer (some ⟨w5.heap.size, 0, none⟩), .pointer (some ⟨pq, 0, none⟩)]] 71)))
        have HH7 := Lib.hid ((HH0.out.below HB5.out).below HB7.out)
        have HM7 := Lib.hid ((Blk.new w5 3 #[.int .i64 ((reach g [] : Nat) : Int)]).alloc (.cells #[.nilFunc, .func (.func 35) #[] #[.pointer (some ⟨w5.heap.size, 0, none⟩), .pointer (some ⟨pq, 0, none⟩)]] 71))
        have HP7 := Lib.hid ((HPQ.out.below HB5.out q1).below HB7.out q4)
        have HW7 := Lib.hid (blk_at (w := w5.alloc (.cells #[.int .i64 ((reach g [] : Nat) : Int)] 3)) (n := w5.heap.size + 1) (t := 71) (cs := #[.nilFunc, .func (.func 35) #[] #[.pointer (some ⟨w5.heap.size, 0, none⟩), .pointer (some ⟨pq, 0, none⟩)]]) (by simp))
        have HBX := Lib.hid (below_then HBW.out (below_then HB5.out HB7.out))
        have hB2 := HB2.out.size
        refine (exec_peak (w5.heap.size) pq (w5.heap.size + 1) (reach g []) HH7.out hF (start_well hr) AL l cl (fun w' hb => HL.out.below (HB2.out.trans ((HBX.out.trans hb).mono hB2))) HOK.out hll HM7.out HP7.out HW7.out (norm_ge q2) HNO.out (norm_ge (by omega)) (by omega)).mono ?_
        rintro e w6 ⟨v6, rfl, hm6, hmod6⟩
        have m0 := hm6.cell 0
        have m1 := hm6.lt
        simp only [List.getElem?_toArray, List.getElem?_cons_zero] at m0
        have HM6 := Lib.hid hmod6
        clear hm6 hmod6
        go_wp2_with fail
        go_ret
        refine ⟨?_, ?_⟩
        · rw [← HXX.out, peakM, if_pos ⟨by rw [HC2.out]; exact HC0.out, HRR.out⟩]
          rfl
        · have hlo : ∀ k, k < w.heap.size → norm wc.heap.size o k = .other := fun k hk => by
            obtain ⟨_, _, _, _, _, _, _, _, _, _, h⟩ := HH0.out
            cases e : norm wc.heap.size o k with
            | other => rfl
            | _ => have := h.lo k (by omega) (by rw [e]; exact fun h => by cases h); omega
          have hb : Below w.heap.size w _ := HB2.out.trans (HBX.out.mono hB2)
          have h6 := HM6.out
          exact ⟨h6.os.trans hb.os, h6.tape.trans hb.tape, h6.output.trans hb.output, Nat.le_trans hb.size h6.size, fun k hk => (h6.block k (by have := hb.size; omega) (fun e => by
            rcases e with e | e
            · exact e (hlo k hk)
            · omega)).trans (hb.block k hk)⟩
  · have hcb : (ce != 0) = true := bne_iff_ne.mpr hc0
    go_wp2_with fail
    go_ret
    refine ⟨?_, HB1.out⟩
    rw [← HXX.out, peakM, if_neg (by rw [HC2.out]; exact fun h => hc0 h.1)]
    rfl

end Go.Proofs.Yteminkohgagedaa.Mo
