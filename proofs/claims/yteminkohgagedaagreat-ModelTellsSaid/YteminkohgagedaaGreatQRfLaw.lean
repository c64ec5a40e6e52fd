/- Plain: the model and the reference say the same of every program over every graph that may be. -/
import Derived.Test.YteminkohgagedaaGreatQMoExecP
import Derived.Test.YteminkohgagedaaGreatQMoIso
import Derived.Test.YteminkohgagedaaGreatQRfRun
namespace Go.Proofs.YteminkohgagedaaGreat.Mo
open Go.RowKit Go.Proofs.YteminkohgagedaaGreat.Base Go.Proofs.YteminkohgagedaaGreat.Gr Go.Proofs.YteminkohgagedaaGreat.Ver
set_option linter.unusedVariables false
set_option linter.unusedSimpArgs false

def peakM (g : Gr) (F : Nat) (l : List Ins) : Nat := if (chk l).2 = 0 ∧ right g = true then peakGo l F (start g g) (reach g []) else 0

theorem cell_set {w : World} {a p : Addr} {u v : Value} (h : w.cell? a = some v) (hne : a.block ≠ p.block) : (w.setCell p u).cell? a = some v := by
  have := Below.heap_setCell w p u a.block hne
  unfold World.cell? at h ⊢
  rw [this]; exact h
theorem cell_all {w : World} {a : Addr} {o : Obj} {v : Value} (h : w.cell? a = some v) : (w.alloc o).cell? a = some v := ((below_1 w o).cell (cell_lt h)).trans h
theorem below_1d (w : World) (o : Obj) : Below w.heap.size w (w.alloc o).drew := below_drewN (below_1 w o) 1
/-- The heap that Peak makes, wherever its variable lies. -/
theorem peak_heap {w2 w3 w4 w5 : World} {t1 t2 : Nat → Tag} {A1 D1 A2 D2 : Option Addr} {c1 d1 c2 d2 : Nat} {x1 x2 : List Value} {g : Gr} {lo1 lo2 pq : Nat}
    (h1 : GM w3 t1 false A1 c1 D1 d1 x1 g) (l1 : ∀ k, t1 k ≠ .other → lo1 ≤ k) (hlo : w2.heap.size ≤ lo1) (hlo1 : lo1 ≤ w3.heap.size) (b34 : Below w3.heap.size w3 w4)
    (h2 : GM w4 t2 true A2 c2 D2 d2 x2 g) (l2 : ∀ k, t2 k ≠ .other → lo2 ≤ k) (hlo2 : w3.heap.size ≤ lo2) (m45 : Mod (fun k => k = pq) w4 w5)
    (hpq : pq < lo1 ∨ (w3.heap.size ≤ pq ∧ pq < lo2) ∨ w4.heap.size ≤ pq) (hne : pq ≠ w5.heap.size) :
    ∃ o, HM (w5.alloc (.cells #[.slice A1 g.roots.length c1, .slice D1 g.nodes.length d1, .slice A2 g.roots.length c2, .slice D2 g.nodes.length d2] 66)) o w2.heap.size w5.heap.size g g ∧ o pq = .other := by
  have s34 := b34.size
  have s45 := m45.size
  have hb5 := below_1 w5 (.cells #[.slice A1 g.roots.length c1, .slice D1 g.nodes.length d1, .slice A2 g.roots.length c2, .slice D2 g.nodes.length d2] 66)
  have o1 : pq < w3.heap.size → t1 pq = .other := fun hk => by
    cases e : t1 pq with
    | other => rfl
    | _ => have := l1 pq (by rw [e]; exact fun h => by cases h); omega
  have o2 : pq < w4.heap.size → t2 pq = .other := fun hk => by
    cases e : t2 pq with
    | other => rfl
    | _ => have := l2 pq (by rw [e]; exact fun h => by cases h); omega
  have M3 : Mod (fun k => k = pq) w3 (w5.alloc (.cells #[.slice A1 g.roots.length c1, .slice D1 g.nodes.length d1, .slice A2 g.roots.length c2, .slice D2 g.nodes.length d2] 66)) :=
    Mod.trans (Mod.trans (Mod.of_below b34) m45 (fun _ _ e => e)) (Mod.of_below (S := fun _ => False) hb5) (fun _ _ e => e.elim)
  have M4 : Mod (fun k => k = pq) w4 (w5.alloc (.cells #[.slice A1 g.roots.length c1, .slice D1 g.nodes.length d1, .slice A2 g.roots.length c2, .slice D2 g.nodes.length d2] 66)) :=
    Mod.trans m45 (Mod.of_below (S := fun _ => False) hb5) (fun _ _ e => e.elim)
  refine ⟨fun k => if k < w3.heap.size then t1 k else if k < w4.heap.size then t2 k else if k = w5.heap.size then .heap else .other, ⟨A1, c1, D1, d1, x1, A2, c2, D2, d2, x2, ?_, ?_, ?_, ?_, fun k hk e => ?_, Nat.le_trans hlo (Nat.le_trans hlo1 (Nat.le_trans s34 (Nat.le_trans s45 hb5.size)))⟩, ?_⟩
  · exact Blk.new w5 66 #[.slice A1 g.roots.length c1, .slice D1 g.nodes.length d1, .slice A2 g.roots.length c2, .slice D2 g.nodes.length d2]
  · show (if w5.heap.size < w3.heap.size then t1 w5.heap.size else if w5.heap.size < w4.heap.size then t2 w5.heap.size else if w5.heap.size = w5.heap.size then Tag.heap else Tag.other) = Tag.heap
    rw [if_neg (by omega), if_neg (by omega), if_pos rfl]
  · exact h1.mod M3 (fun k hk e => by subst e; rw [o1 hk]; exact fun h => by cases h) (fun k hk => if_pos hk)
  · have q : GM w4 (fun k => if k < w3.heap.size then .other else t2 k) true A2 c2 D2 d2 x2 g := h2.retag (fun k hk => if_neg (by have := l2 k hk; omega))
    refine (q.mod (S := fun k => k = pq) (o' := fun k => if k < w3.heap.size then .other else if k < w4.heap.size then t2 k else .other) M4 (fun k hk e => ?_) (fun k hk => ?_)).retag (fun k hk => ?_)
    · subst e
      by_cases h : k < w3.heap.size
      · simp only [h, if_true]; exact fun h => by cases h
      · simp only [h, if_false]; rw [o2 hk]; exact fun h => by cases h
    · by_cases h : k < w3.heap.size
      · simp [h]
      · simp [h, hk]
    · by_cases h : k < w3.heap.size
      · simp [h] at hk
      · simp only [h, if_false] at hk ⊢
        by_cases h' : k < w4.heap.size
        · simp [h']
        · simp [h'] at hk
  · by_cases h : k < w3.heap.size
    · simp only [h, if_true] at e; exact Nat.le_trans hlo (l1 k e)
    · omega
  · show (if pq < w3.heap.size then t1 pq else if pq < w4.heap.size then t2 pq else if pq = w5.heap.size then Tag.heap else Tag.other) = Tag.other
    by_cases h : pq < w3.heap.size
    · rw [if_pos h]; exact o1 h
    · rw [if_neg h]
      by_cases h' : pq < w4.heap.size
      · rw [if_pos h']; exact o2 h'
      · rw [if_neg h', if_neg hne]
theorem blk_at {w : World} {t : TypeId} {cs : Array Value} {n : Nat} (h : w.heap.size = n) : Blk (w.alloc (.cells cs t)) n t cs := h ▸ Blk.new w t cs
theorem bcell {W w1 : World} (hb : Below W.heap.size W w1) : (∀ b o, b < W.heap.size → w1.cell? ⟨b, o, none⟩ = W.cell? ⟨b, o, none⟩) ∧ (∀ b o, b < W.heap.size → w1.frozen? ⟨b, o, none⟩ = W.frozen? ⟨b, o, none⟩) ∧ W.heap.size ≤ w1.heap.size :=
  ⟨fun b o h => hb.cell (p := ⟨b, o, none⟩) h, fun b o h => hb.frozen (p := ⟨b, o, none⟩) h, hb.size⟩
set_option maxRecDepth 100000 in
set_option maxHeartbeats 8000000 in
theorem peak_wide (A D AL : Option Addr) (g : Gr) (l : List Ins) (c d cl : Nat) (fu : Int) (F : Nat) (hF : F ≤ 50000) (hfu : max fu 0 = (F : Int)) (w : World) (hA : Ints w A g.roots) (hD : Nodes w D g.nodes) (hL : Arr w Ins.cells 4 AL l) :
    Calls Tryz.prog 13 #[.agg #[.slice A g.roots.length c, .slice D g.nodes.length d], .int .i64 fu, .slice AL l.length cl] w fun e w' => e = .returned (.int .i64 (peakM g F l : Nat)) ∧ Below w.heap.size w w' := by
  have hb0 := below_1 w (.cells #[.slice A g.roots.length c, .slice D g.nodes.length d] 25)
  have HB0 := Lib.hid hb0
  have KC := Lib.hid (check_any AL l cl _ (hL.below hb0))
  have HA := Lib.hid hA
  have HD := Lib.hid hD
  have HL := Lib.hid hL
  have HG0 := Lib.hid (Blk.new w 25 #[.slice A g.roots.length c, .slice D g.nodes.length d])
  have HRUN : Hid (∃ x, peakM g F l = x) := ⟨_, rfl⟩
  obtain ⟨X, hX⟩ := HRUN.out
  rw [hX]
  have HXX := Lib.hid hX
  clear hA hD hL hb0 hX HRUN
  go_enter Tryz.func13, Tryz.ntmps13
  go_wp2_with fail
  refine KC.out.mono ?_
  rintro e w1 ⟨rfl, hb1⟩
  have HB1 := Lib.hid (below_then HB0.out hb1)
  have HG1 := Lib.hid (HG0.out.below hb1 HG0.out.lt)
  have x0 := HG1.out.cell 0
  have x1 := HG1.out.cell 1
  have zg := HG1.out.lt
  simp only [List.getElem?_toArray, List.getElem?_cons_zero, List.getElem?_cons_succ] at x0 x1
  obtain ⟨cw, hcw⟩ : ∃ cw, (chk l).1 = cw := ⟨_, rfl⟩
  obtain ⟨ce, hce⟩ : ∃ ce, (chk l).2 = ce := ⟨_, rfl⟩
  rw [hcw, hce]
  have HC1 := Lib.hid hcw
  have HC2 := Lib.hid hce
  clear hcw hce hb1 KC HB0 HG0
  by_cases hc0 : ce = 0
  · have hcb : (ce != 0) = false := by rw [hc0]; rfl
    have KR := Lib.hid (right_any A D g c d _ (HA.out.below HB1.out) (HD.out.below HB1.out))
    cases hr : right g with
    | false =>
      go_wp2_with (first | (go_at_call 25; refine KR.out.mono ?_; rintro e w2 ⟨rfl, hb2⟩; have HB2 := Lib.hid (below_then HB1.out hb2); rw [hr]))
      go_ret
      refine ⟨?_, HB2.out⟩
      rw [← HXX.out, peakM, if_neg (by rw [hr]; simp)]
      rfl
    | true =>
      obtain ⟨hl0, hll, hok, hchk⟩ := chk_ok (l := l) (by rw [HC2.out]; exact hc0)
      have HOK := Lib.hid hok
      have hfit := sound_right hr
      have HS := Lib.hid hfit
      have HC0 := Lib.hid hc0
      have HRR := Lib.hid hr
      clear hok hchk hfit hc0
      go_wp2_with (first | (go_at_call 25; refine KR.out.mono ?_; rintro e w2 ⟨rfl, hb2⟩; have HB2 := Lib.hid (below_then HB1.out hb2); have HG2 := Lib.hid (HG1.out.below hb2 HG1.out.lt); rw [hr]; clear hb2))
      have hbw2 := below_drewN HB2.out 1
      have HBD := Lib.hid hbw2
      have y0 := HG2.out.cell 0
      have y1 := HG2.out.cell 1
      have zg2 := HG2.out.lt
      simp only [List.getElem?_toArray, List.getElem?_cons_zero, List.getElem?_cons_succ] at y0 y1
      clear hbw2 x0 x1 zg
      go_upto_region 4 with fail
      go_cut [9] (fun u wx => ∃ (o : Nat → Tag) (pq hp : Nat), u = .pointer (some ⟨pq, 0, none⟩) ∧ Hid (HM wx o w2.heap.size hp g g) ∧ Hid (Blk wx pq 64 #[.pointer (some ⟨hp, 0, none⟩)]) ∧ Hid (o pq = .other) ∧ Hid (w2.heap.size ≤ pq) ∧ Hid (Below w2.heap.size w2 wx))
      case first =>
        go_region_held3 (fun W => W.cell? ⟨w.heap.size, 0, none⟩ = some (.slice A g.roots.length c) ∧ W.cell? ⟨w.heap.size, 1, none⟩ = some (.slice D g.nodes.length d))
          (first
            | exact hcs
            | exact ⟨cell_all (cell_set hcs.1 (by simp; omega)), cell_all (cell_set hcs.2 (by simp; omega))⟩
            | exact ⟨cell_set (cell_all hcs.1) (by simp; omega), cell_set (cell_all hcs.2) (by simp; omega)⟩
            | exact ⟨cell_set (cell_all (cell_all hcs.1)) (by simp; omega), cell_set (cell_all (cell_all hcs.2)) (by simp; omega)⟩
            | exact ⟨(below_then (below_drewN (Below.refl _ w2) 1) (below_1 _ _)).cell (cell_lt y0) |>.trans y0, (below_then (below_drewN (Below.refl _ w2) 1) (below_1 _ _)).cell (cell_lt y1) |>.trans y1⟩
            | exact ⟨((below_1 _ _).cell (cell_lt hcs.1)).trans hcs.1, ((below_1 _ _).cell (cell_lt hcs.2)).trans hcs.2⟩
            | go_keep)
          (first
            | (go_at_call 27; revert hg1; intro hg1; refine (own_any true A D g c d _ (HA.out.below (by first | exact hbw3.out | exact below_then hbw3.out (below_1 _ _))) (HD.out.below (by first | exact hbw3.out | exact below_then hbw3.out (below_1 _ _))) (by rw [HS.out.roots]; omega) (Nat.le_trans HS.out.size (by omega)) (sound_small HS.out)).mono ?_; rintro e w4 ⟨t2, A2, c2, D2, d2, y2, rfl, hg2', ht2', hbo2'⟩; have hg2 := Lib.hid hg2'; have ht2 := Lib.hid ht2'; have hbo2 := Lib.hid hbo2'; have hq5 := hbo2'.size; (try simp only [World.size_alloc] at hq5); (try have hz7 : w2.heap.size < w4.heap.size := by omega); (try have hz8 : w3.heap.size < w4.heap.size := by omega); (try (have hx3 := (hbo2'.cell (p := ⟨w2.heap.size, 0, none⟩) (cell_lt hx1)).trans hx1; have hx4 := (hbo2'.frozen (p := ⟨w2.heap.size, 0, none⟩) (cell_lt hx1)).trans hx2)); (try (have hx5 := (hbo2'.cell (p := ⟨w3.heap.size, 0, none⟩) (by simp)).trans (Blk.cell (Blk.new w3 64 #[.pointer none]) 0); have hx6 := (hbo2'.frozen (p := ⟨w3.heap.size, 0, none⟩) (by simp)).trans (Blk.frozen (Blk.new w3 64 #[.pointer none]) 0))); clear hg2' ht2' hbo2'; have hcs := (show w4.cell? ⟨w.heap.size, 0, none⟩ = some (.slice A g.roots.length c) ∧ w4.cell? ⟨w.heap.size, 1, none⟩ = some (.slice D g.nodes.length d) from (by first | exact ⟨(hbo2.out.cell (cell_lt hcs.1)).trans hcs.1, (hbo2.out.cell (cell_lt hcs.2)).trans hcs.2⟩ | exact ⟨((below_then (below_1 _ _) hbo2.out).cell (cell_lt hcs.1)).trans hcs.1, ((below_then (below_1 _ _) hbo2.out).cell (cell_lt hcs.2)).trans hcs.2⟩)))
            | (go_at_call 27; refine (own_any false A D g c d _ (HA.out.below (by first | exact HBD.out | exact below_then HBD.out (below_1 _ _))) (HD.out.below (by first | exact HBD.out | exact below_then HBD.out (below_1 _ _))) (by rw [HS.out.roots]; omega) (Nat.le_trans HS.out.size (by omega)) (sound_small HS.out)).mono ?_; rintro e w3 ⟨t1, A1, c1, D1, d1, yy1, rfl, hg1', ht1', hbo1'⟩; have hg1 := Lib.hid hg1'; have ht1 := Lib.hid ht1'; have hbw3 := Lib.hid (show Below w.heap.size w w3 from (by first | exact below_then HBD.out hbo1' | exact below_then HBD.out (below_then (below_1 _ _) hbo1'))); have hbo1 := Lib.hid hbo1'; have hq6 : w2.heap.size ≤ w3.heap.size := (below_then (show Below w2.heap.size w2 _ from (by first | exact below_drewN (Below.refl _ _) 1 | exact below_1d _ _)) hbo1').size; (try have hz9 : w2.heap.size < w3.heap.size := (by have := hbo1'.size; simp at this; omega)); (try (have hx1 := (hbo1'.cell (p := ⟨w2.heap.size, 0, none⟩) (by simp)).trans (Blk.cell (Blk.new (World.drew w2) 64 #[.pointer none]) 0); have hx2 := (hbo1'.frozen (p := ⟨w2.heap.size, 0, none⟩) (by simp)).trans (Blk.frozen (Blk.new (World.drew w2) 64 #[.pointer none]) 0))); clear hg1' ht1' hbo1'; have hcs := (show w3.cell? ⟨w.heap.size, 0, none⟩ = some (.slice A g.roots.length c) ∧ w3.cell? ⟨w.heap.size, 1, none⟩ = some (.slice D g.nodes.length d) from (by first | exact ⟨(hbo1.out.cell (cell_lt y0)).trans y0, (hbo1.out.cell (cell_lt y1)).trans y1⟩ | exact ⟨((below_then (below_1d _ _) hbo1.out).cell (cell_lt y0)).trans y0, ((below_then (below_1d _ _) hbo1.out).cell (cell_lt y1)).trans y1⟩))))
        · go_wp2_with fail
          go_meet
          obtain ⟨o, hh, ho⟩ := peak_heap (w2 := w2) (pq := w4.heap.size + 1) hg1.out ht1.out (Nat.le_refl _) hbo1.out.size hbo2.out hg2.out ht2.out (Nat.le_refl _) (Mod.refl _ w4) (by omega) (by omega)
          exact ⟨o, w4.heap.size + 1, w4.heap.size, rfl, Lib.hid (hh.below (below_1 _ _)), Lib.hid (blk_at (by simp)), Lib.hid ho, Lib.hid (by omega), Lib.hid (below_then (below_then (below_drewN (Below.refl _ w2) 1) (below_then hbo1.out hbo2.out)) (below_then (below_1 w4 _) (below_1 _ _)))⟩
        · go_wp2_with fail
          go_meet
          obtain ⟨o, hh, ho⟩ := peak_heap (w2 := w2) (w5 := w4.alloc (.cells #[.pointer (some ⟨w4.heap.size + 1, 0, none⟩)] 64)) (pq := w4.heap.size) hg1.out ht1.out (Nat.le_refl _) hbo1.out.size hbo2.out hg2.out ht2.out (Nat.le_refl _) (Mod.of_below (below_1 w4 _)) (by omega) (by simp)
          exact ⟨o, w4.heap.size, w4.heap.size + 1, rfl, Lib.hid (by simpa using hh), Lib.hid ((Blk.new w4 _ _).alloc _), Lib.hid ho, Lib.hid (by omega), Lib.hid (below_then (below_then (below_drewN (Below.refl _ w2) 1) (below_then hbo1.out hbo2.out)) (below_then (below_1 w4 _) (below_1 _ _)))⟩
        · go_wp2_with fail
          go_meet
          have hs3 := hbo2.out.size
          simp only [World.size_alloc] at hs3
          obtain ⟨o, hh, ho⟩ := peak_heap (w2 := w2) (w5 := w4.setCell ⟨w3.heap.size, 0, none⟩ (.pointer (some ⟨w4.heap.size, 0, none⟩))) (pq := w3.heap.size) hg1.out ht1.out (Nat.le_refl _) hbo1.out.size (below_then (below_1 w3 _) hbo2.out) hg2.out ht2.out (by simp) (mod_set' (S := fun k => k = w3.heap.size) (Mod.refl _ w4) rfl _) (.inr (.inl ⟨Nat.le_refl _, by simp⟩)) (by simp; omega)
          exact ⟨o, w3.heap.size, w4.heap.size, rfl, Lib.hid (by simpa using hh), Lib.hid ((((Blk.new w3 64 #[.pointer none]).below hbo2.out (by simp)).set_ 0 _).alloc _), Lib.hid ho, Lib.hid hq6, Lib.hid ((below_then (below_then (below_drewN (Below.refl _ w2) 1) (below_then hbo1.out (below_then (below_1 w3 _) hbo2.out))) (Below.refl _ w4)).setCell hq6 _ |>.trans ((below_1 _ _).mono (by simp; omega)))⟩
        · go_wp2_with fail
          go_meet
          have hs2 := hbo1.out.size
          have hs3 := hbo2.out.size
          have hs2' : w2.heap.size + 1 ≤ w3.heap.size := by simpa using hs2
          obtain ⟨o, hh, ho⟩ := peak_heap (w2 := w2) (w5 := w4.setCell ⟨w2.heap.size, 0, none⟩ (.pointer (some ⟨w4.heap.size, 0, none⟩))) (pq := w2.heap.size) hg1.out ht1.out (by simp) hbo1.out.size hbo2.out hg2.out ht2.out (Nat.le_refl _) (mod_set' (S := fun k => k = w2.heap.size) (Mod.refl _ w4) rfl _) (.inl (by simp)) (by simp; omega)
          exact ⟨o, w2.heap.size, w4.heap.size, rfl, Lib.hid (by simpa using hh), Lib.hid (((((Blk.new w2 64 #[.pointer none]).drewN 1).below (below_then hbo1.out hbo2.out) (by simp)).set_ 0 _).alloc _), Lib.hid ho, Lib.hid (Nat.le_refl _), Lib.hid ((below_then (below_1d w2 _) (below_then hbo1.out hbo2.out)).setCell (Nat.le_refl _) _ |>.trans ((below_1 _ _).mono (by simp; omega)))⟩
      case rest =>
        obtain ⟨o, pq, hp, rfl, HH, HPQ, HO, HLQ, HBW⟩ := hcut
        have hh0 : HM wc (norm wc.heap.size o) w2.heap.size hp g g := HH.out.keep (Mod.refl (fun _ => False) wc) (fun _ _ h => h.elim) (fun k hk => norm_lt hk) (fun k hk hk' _ => by omega)
        have q0 := HPQ.out.cell 0
        have q1 := HPQ.out.lt
        simp only [List.getElem?_toArray, List.getElem?_cons_zero] at q0
        have KR1 := Lib.hid (reached_any hh0 HS.out (show 1000 ≤ 90000 by omega) none [] 0 (Ints.nil _) (by simp [named]) (by simp))
        have HH0 := Lib.hid hh0
        have HNO := Lib.hid (show norm wc.heap.size o pq = .other by rw [norm_lt q1]; exact HO.out)
        have hbs := HBW.out.size
        clear hh0
        have hfu2 : (fu < 0 ∧ F = 0) ∨ (0 ≤ fu ∧ fu = (F : Int)) := by omega
        clear hfu
        rcases hfu2 with ⟨hn1, rfl⟩ | ⟨hn1, rfl⟩
        all_goals
          go_wp2_with (first | (go_at_call 33; refine KR1.out.mono ?_; rintro e w5 ⟨rfl, hb5⟩; have HB5 := Lib.hid hb5; have q2 := hb5.size; have q3 := (hb5.cell (p := ⟨pq, 0, none⟩) q1).trans q0; have q4 : pq < w5.heap.size := Nat.lt_of_lt_of_le q1 q2; clear hb5))
          have HB7 := Lib.hid (below_then (below_1 w5 (.cells #[.int .i64 ((reach g [] : Nat) : Int)] 3)) (below_1 _ (.cells #[.nilFunc, .func (.func 34) #[] #[.pointer (some ⟨w5.heap.size, 0, none⟩), .pointer (some ⟨pq, 0, none⟩)]] 75)))
          have HH7 := Lib.hid ((HH0.out.below HB5.out).below HB7.out)
          have HM7 := Lib.hid ((Blk.new w5 3 #[.int .i64 ((reach g [] : Nat) : Int)]).alloc (.cells #[.nilFunc, .func (.func 34) #[] #[.pointer (some ⟨w5.heap.size, 0, none⟩), .pointer (some ⟨pq, 0, none⟩)]] 75))
          have HP7 := Lib.hid ((HPQ.out.below HB5.out q1).below HB7.out q4)
          have HW7 := Lib.hid (blk_at (w := w5.alloc (.cells #[.int .i64 ((reach g [] : Nat) : Int)] 3)) (n := w5.heap.size + 1) (t := 75) (cs := #[.nilFunc, .func (.func 34) #[] #[.pointer (some ⟨w5.heap.size, 0, none⟩), .pointer (some ⟨pq, 0, none⟩)]]) (by simp))
          have HBX := Lib.hid (below_then HBW.out (below_then HB5.out HB7.out))
          have hB2 := HB2.out.size
          refine (exec_peak (w5.heap.size) pq (w5.heap.size + 1) (reach g []) HH7.out hF (start_well hr) AL l cl (fun w' hb => HL.out.below (HB2.out.trans ((HBX.out.trans hb).mono hB2))) HOK.out hll HM7.out HP7.out HW7.out (norm_ge q2) HNO.out (norm_ge (by omega)) (by omega)).mono ?_
          rintro e w6 ⟨v6, rfl, hm6, hmod6⟩
          have m0 := hm6.cell 0
          have m1 := hm6.lt
          simp only [List.getElem?_toArray, List.getElem?_cons_zero] at m0
          have HM6 := Lib.hid hmod6
          clear hm6 hmod6
          go_wp2_with fail
          go_ret
          refine ⟨?_, ?_⟩
          · rw [← HXX.out, peakM, if_pos ⟨by rw [HC2.out]; exact HC0.out, HRR.out⟩]
            rfl
          · have hlo : ∀ k, k < w.heap.size → norm wc.heap.size o k = .other := fun k hk => by
              obtain ⟨_, _, _, _, _, _, _, _, _, _, h⟩ := HH0.out
              cases e : norm wc.heap.size o k with
              | other => rfl
              | _ => have := h.lo k (by omega) (by rw [e]; exact fun h => by cases h); omega
            have hb : Below w.heap.size w _ := HB2.out.trans (HBX.out.mono hB2)
            have h6 := HM6.out
            exact ⟨h6.os.trans hb.os, h6.tape.trans hb.tape, h6.output.trans hb.output, Nat.le_trans hb.size h6.size, fun k hk => (h6.block k (by have := hb.size; omega) (fun e => by
              rcases e with e | e
              · exact e (hlo k hk)
              · omega)).trans (hb.block k hk)⟩
  · have hcb : (ce != 0) = true := bne_iff_ne.mpr hc0
    go_wp2_with fail
    go_ret
    refine ⟨?_, HB1.out⟩
    rw [← HXX.out, peakM, if_neg (by rw [HC2.out]; exact fun h => hc0 h.1)]
    rfl

theorem peak_any (A D AL : Option Addr) (g : Gr) (l : List Ins) (c d cl : Nat) (F : Nat) (hF : F ≤ 50000) (w : World) (hA : Ints w A g.roots) (hD : Nodes w D g.nodes) (hL : Arr w Ins.cells 4 AL l) :
    Calls Tryz.prog 13 #[.agg #[.slice A g.roots.length c, .slice D g.nodes.length d], .int .i64 (F : Int), .slice AL l.length cl] w fun e w' => e = .returned (.int .i64 (peakM g F l : Nat)) ∧ Below w.heap.size w w' :=
  peak_wide A D AL g l c d cl (F : Int) F hF (by omega) w hA hD hL

end Go.Proofs.YteminkohgagedaaGreat.Mo
namespace Go.Proofs.YteminkohgagedaaGreat.Mo
open Go.RowKit Go.Proofs.YteminkohgagedaaGreat.Base Go.Proofs.YteminkohgagedaaGreat.Gr Go.Proofs.YteminkohgagedaaGreat.Ver
set_option linter.unusedVariables false
set_option linter.unusedSimpArgs false

theorem step_last (x : Ins) (σ : St) : (step x σ).2.last = σ.last ∨ (step x σ).2.last = (step x σ).2.now := by
  by_cases e1 : x.op = 1
  · rw [step_1 σ e1]
    first | exact .inl rfl | exact .inr rfl | (split <;> exact .inl rfl) | (dsimp only; split <;> exact .inl rfl)
  by_cases e2 : x.op = 2
  · rw [step_2 σ e2]
    first | exact .inl rfl | exact .inr rfl | (split <;> exact .inl rfl) | (dsimp only; split <;> exact .inl rfl)
  by_cases e3 : x.op = 3
  · rw [step_3 σ e3]
    first | exact .inl rfl | exact .inr rfl | (split <;> exact .inl rfl) | (dsimp only; split <;> exact .inl rfl)
  by_cases e4 : x.op = 4
  · rw [step_4 σ e4]
    first | exact .inl rfl | exact .inr rfl | (split <;> exact .inl rfl) | (dsimp only; split <;> exact .inl rfl)
  by_cases e5 : x.op = 5
  · rw [step_5 σ e5]
    first | exact .inl rfl | exact .inr rfl | (split <;> exact .inl rfl) | (dsimp only; split <;> exact .inl rfl)
  by_cases e6 : x.op = 6
  · rw [step_6 σ e6]
    first | exact .inl rfl | exact .inr rfl | (split <;> exact .inl rfl) | (dsimp only; split <;> exact .inl rfl)
  by_cases e7 : x.op = 7
  · rw [step_7 σ e7]
    first | exact .inl rfl | exact .inr rfl | (split <;> exact .inl rfl) | (dsimp only; split <;> exact .inl rfl)
  by_cases e8 : x.op = 8
  · rw [step_8 σ e8]
    first | exact .inl rfl | exact .inr rfl | (split <;> exact .inl rfl) | (dsimp only; split <;> exact .inl rfl)
  by_cases e9 : x.op = 9
  · rw [step_9 σ e9]
    first | exact .inl rfl | exact .inr rfl | (split <;> exact .inl rfl) | (dsimp only; split <;> exact .inl rfl)
  by_cases e10 : x.op = 10
  · rw [step_10 σ e10]
    first | exact .inl rfl | exact .inr rfl | (split <;> exact .inl rfl) | (dsimp only; split <;> exact .inl rfl)
  by_cases e11 : x.op = 11
  · rw [step_11 σ e11]
    first | exact .inl rfl | exact .inr rfl | (split <;> exact .inl rfl) | (dsimp only; split <;> exact .inl rfl)
  by_cases e12 : x.op = 12
  · rw [step_12 σ e12]
    first | exact .inl rfl | exact .inr rfl | (split <;> exact .inl rfl) | (dsimp only; split <;> exact .inl rfl)
  by_cases e13 : x.op = 13
  · rw [step_13 σ e13]
    first | exact .inl rfl | exact .inr rfl | (split <;> exact .inl rfl) | (dsimp only; split <;> exact .inl rfl)
  by_cases e14 : x.op = 14
  · rw [step_14 σ e14]
    first | exact .inl rfl | exact .inr rfl | (split <;> exact .inl rfl) | (dsimp only; split <;> exact .inl rfl)
  by_cases e15 : x.op = 15
  · rw [step_15 σ e15]
    first | exact .inl rfl | exact .inr rfl | (split <;> exact .inl rfl) | (dsimp only; split <;> exact .inl rfl)
  by_cases e16 : x.op = 16
  · rw [step_16 σ e16]
    first | exact .inl rfl | exact .inr rfl | (split <;> exact .inl rfl) | (dsimp only; split <;> exact .inl rfl)
  by_cases e17 : x.op = 17
  · rw [step_17 σ e17]
    first | exact .inl rfl | exact .inr rfl | (split <;> exact .inl rfl) | (dsimp only; split <;> exact .inl rfl)
  by_cases e18 : x.op = 18
  · rw [step_18 σ e18]
    first | exact .inl rfl | exact .inr rfl | (split <;> exact .inl rfl) | (dsimp only; split <;> exact .inl rfl)
  by_cases e19 : x.op = 19
  · rw [step_19 σ e19]
    first | exact .inl rfl | exact .inr rfl | (split <;> exact .inl rfl) | (dsimp only; split <;> exact .inl rfl)
  by_cases e20 : x.op = 20
  · rw [step_20 σ e20]
    first | exact .inl rfl | exact .inr rfl | (split <;> exact .inl rfl) | (dsimp only; split <;> exact .inl rfl)
  by_cases e21 : x.op = 21
  · rw [step_21 σ e21]
    first | exact .inl rfl | exact .inr rfl | (split <;> exact .inl rfl) | (dsimp only; split <;> exact .inl rfl)
  unfold step
  rw [if_neg e1, if_neg e2, if_neg e3, if_neg e4, if_neg e5, if_neg e6, if_neg e7, if_neg e8, if_neg e9, if_neg e10, if_neg e11, if_neg e12, if_neg e13, if_neg e14, if_neg e15, if_neg e16, if_neg e17, if_neg e18, if_neg e19, if_neg e20, if_neg e21]
  first | exact .inl rfl | exact .inr rfl | (split <;> exact .inl rfl) | (dsimp only; split <;> exact .inl rfl)
theorem step_e (x : Ins) (σ : St) : (step x σ).1 = 0 ∨ (step x σ).1 = 7 ∨ (step x σ).1 = 8 := by
  have ha : ∀ a i l, atE a i l = 0 ∨ atE a i l = 7 ∨ atE a i l = 8 := fun a i l => by
    unfold atE
    repeat' split
    all_goals simp
  by_cases e1 : x.op = 1
  · rw [step_1 σ e1]
    first | exact .inl rfl | (split; exact .inl rfl; exact ha _ _ _) | (split; exact .inr (.inl rfl); exact .inl rfl)
  by_cases e2 : x.op = 2
  · rw [step_2 σ e2]
    first | exact .inl rfl | (split; exact .inl rfl; exact ha _ _ _) | (split; exact .inr (.inl rfl); exact .inl rfl)
  by_cases e3 : x.op = 3
  · rw [step_3 σ e3]
    first | exact .inl rfl | (split; exact .inl rfl; exact ha _ _ _) | (split; exact .inr (.inl rfl); exact .inl rfl)
  by_cases e4 : x.op = 4
  · rw [step_4 σ e4]
    first | exact .inl rfl | (split; exact .inl rfl; exact ha _ _ _) | (split; exact .inr (.inl rfl); exact .inl rfl)
  by_cases e5 : x.op = 5
  · rw [step_5 σ e5]
    first | exact .inl rfl | (split; exact .inl rfl; exact ha _ _ _) | (split; exact .inr (.inl rfl); exact .inl rfl)
  by_cases e6 : x.op = 6
  · rw [step_6 σ e6]
    first | exact .inl rfl | (split; exact .inl rfl; exact ha _ _ _) | (split; exact .inr (.inl rfl); exact .inl rfl)
  by_cases e7 : x.op = 7
  · rw [step_7 σ e7]
    first | exact .inl rfl | (split; exact .inl rfl; exact ha _ _ _) | (split; exact .inr (.inl rfl); exact .inl rfl)
  by_cases e8 : x.op = 8
  · rw [step_8 σ e8]
    first | exact .inl rfl | (split; exact .inl rfl; exact ha _ _ _) | (split; exact .inr (.inl rfl); exact .inl rfl)
  by_cases e9 : x.op = 9
  · rw [step_9 σ e9]
    first | exact .inl rfl | (split; exact .inl rfl; exact ha _ _ _) | (split; exact .inr (.inl rfl); exact .inl rfl)
  by_cases e10 : x.op = 10
  · rw [step_10 σ e10]
    first | exact .inl rfl | (split; exact .inl rfl; exact ha _ _ _) | (split; exact .inr (.inl rfl); exact .inl rfl)
  by_cases e11 : x.op = 11
  · rw [step_11 σ e11]
    first | exact .inl rfl | (split; exact .inl rfl; exact ha _ _ _) | (split; exact .inr (.inl rfl); exact .inl rfl)
  by_cases e12 : x.op = 12
  · rw [step_12 σ e12]
    first | exact .inl rfl | (split; exact .inl rfl; exact ha _ _ _) | (split; exact .inr (.inl rfl); exact .inl rfl)
  by_cases e13 : x.op = 13
  · rw [step_13 σ e13]
    first | exact .inl rfl | (split; exact .inl rfl; exact ha _ _ _) | (split; exact .inr (.inl rfl); exact .inl rfl)
  by_cases e14 : x.op = 14
  · rw [step_14 σ e14]
    first | exact .inl rfl | (split; exact .inl rfl; exact ha _ _ _) | (split; exact .inr (.inl rfl); exact .inl rfl)
  by_cases e15 : x.op = 15
  · rw [step_15 σ e15]
    first | exact .inl rfl | (split; exact .inl rfl; exact ha _ _ _) | (split; exact .inr (.inl rfl); exact .inl rfl)
  by_cases e16 : x.op = 16
  · rw [step_16 σ e16]
    first | exact .inl rfl | (split; exact .inl rfl; exact ha _ _ _) | (split; exact .inr (.inl rfl); exact .inl rfl)
  by_cases e17 : x.op = 17
  · rw [step_17 σ e17]
    first | exact .inl rfl | (split; exact .inl rfl; exact ha _ _ _) | (split; exact .inr (.inl rfl); exact .inl rfl)
  by_cases e18 : x.op = 18
  · rw [step_18 σ e18]
    first | exact .inl rfl | (split; exact .inl rfl; exact ha _ _ _) | (split; exact .inr (.inl rfl); exact .inl rfl)
  by_cases e19 : x.op = 19
  · rw [step_19 σ e19]
    first | exact .inl rfl | (split; exact .inl rfl; exact ha _ _ _) | (split; exact .inr (.inl rfl); exact .inl rfl)
  by_cases e20 : x.op = 20
  · rw [step_20 σ e20]
    first | exact .inl rfl | (split; exact .inl rfl; exact ha _ _ _) | (split; exact .inr (.inl rfl); exact .inl rfl)
  by_cases e21 : x.op = 21
  · rw [step_21 σ e21]
    first | exact .inl rfl | (split; exact .inl rfl; exact ha _ _ _) | (split; exact .inr (.inl rfl); exact .inl rfl)
  unfold step
  rw [if_neg e1, if_neg e2, if_neg e3, if_neg e4, if_neg e5, if_neg e6, if_neg e7, if_neg e8, if_neg e9, if_neg e10, if_neg e11, if_neg e12, if_neg e13, if_neg e14, if_neg e15, if_neg e16, if_neg e17, if_neg e18, if_neg e19, if_neg e20, if_neg e21]
  first | exact .inl rfl | (split; exact .inl rfl; exact ha _ _ _) | (split; exact .inr (.inl rfl); exact .inl rfl)
theorem exec_e (l : List Ins) (n : Nat) (σ : St) : (exec l n σ).e ≠ 10 := by
  induction n generalizing σ with
  | zero => unfold exec; split <;> simp
  | succ n ih =>
    unfold exec
    split
    · split
      · simp
      · split
        · exact ih _
        · have := step_e (insAt l σ.pc) { σ with pc := σ.pc + 1 }
          show (step (insAt l σ.pc) { σ with pc := σ.pc + 1 }).1 ≠ 10
          omega
    · simp
theorem reach_now {N : Nat} {σ : St} (h : Well N σ) : cells (number σ.now).nodes ≤ reach σ.now σ.refs := by
  unfold reach
  refine reach_more ⟨h.now.named, h.now.nodes⟩ ⟨?_, h.now.nodes⟩ rfl (fun a ha _ => List.mem_append.2 (.inl ha))
  rw [named_iff]
  intro a ha
  rcases List.mem_append.1 ha with h1 | h1
  · exact named_iff.1 h.now.named a h1
  · exact named_iff.1 h.refsN a h1
theorem peak_ge {l : List Ins} (hl : ∀ x ∈ l, x.ok l.length = true) (n N m : Nat) (σ : St) (h : Well N σ) (hm : cells (number σ.last).nodes ≤ m) :
    m ≤ peakGo l n σ m ∧ cells (number (exec l n σ).σ.last).nodes ≤ peakGo l n σ m := by
  induction n generalizing N m σ with
  | zero =>
    rw [peakGo]
    unfold exec
    split <;> exact ⟨Nat.le_refl _, hm⟩
  | succ n ih =>
    by_cases hp : σ.pc < l.length
    · by_cases h0 : (insAt l σ.pc).op = 0
      · rw [peak_halt hp h0]
        unfold exec
        rw [if_pos hp, if_pos h0]
        exact ⟨Nat.le_refl _, hm⟩
      · have hw := step_well (insAt_ok hl hp) (h.pc (σ.pc + 1))
        have hr := reach_now hw
        have hlast : cells (number (step (insAt l σ.pc) { σ with pc := σ.pc + 1 }).2.last).nodes ≤ max m (reach (step (insAt l σ.pc) { σ with pc := σ.pc + 1 }).2.now (step (insAt l σ.pc) { σ with pc := σ.pc + 1 }).2.refs) := by
          rcases step_last (insAt l σ.pc) { σ with pc := σ.pc + 1 } with e | e
          · rw [e]; exact Nat.le_trans hm (Nat.le_max_left _ _)
          · rw [e]; exact Nat.le_trans hr (Nat.le_max_right _ _)
        by_cases h1 : (step (insAt l σ.pc) { σ with pc := σ.pc + 1 }).1 = 0
        · rw [peak_go hp h0 h1]
          have e : (exec l (n + 1) σ).σ = (exec l n (step (insAt l σ.pc) { σ with pc := σ.pc + 1 }).2).σ := by
            conv => lhs; unfold exec
            rw [if_pos hp, if_neg h0, if_pos h1]
          rw [e]
          have := ih (N + 1) _ _ hw hlast
          exact ⟨Nat.le_trans (Nat.le_max_left _ _) this.1, this.2⟩
        · rw [peak_err hp h0 h1]
          have e : (exec l (n + 1) σ).σ = (step (insAt l σ.pc) { σ with pc := σ.pc + 1 }).2 := by
            conv => lhs; unfold exec
            rw [if_pos hp, if_neg h0, if_neg h1]
          rw [e]
          exact ⟨Nat.le_max_left _ _, hlast⟩
    · rw [peak_out hp]
      unfold exec
      rw [if_neg hp]
      exact ⟨Nat.le_refl _, hm⟩
theorem chk_zero (l : List Ins) : (chk l).2 = 0 ∨ (chk l).2 = 10 := by
  unfold chk
  repeat' split
  all_goals simp
/-- What the statement says. -/
theorem peak_law {g : Gr} (hg : right g = true) (F : Nat) (l : List Ins) :
    ((runM g F l).e = 10 → peakM g F l = 0) ∧ ((runM g F l).e ≠ 10 → cells (number g).nodes ≤ peakM g F l ∧ cells (runM g F l).gr.nodes ≤ peakM g F l) := by
  rcases chk_zero l with hc | hc
  · have er : runM g F l = ⟨(exec l F (start g g)).e, (exec l F (start g g)).at_, (exec l F (start g g)).left, (exec l F (start g g)).σ.outs, number (exec l F (start g g)).σ.last⟩ := by
      rw [runM, if_pos hg, if_pos hc]
    have ep : peakM g F l = peakGo l F (start g g) (reach g []) := by rw [peakM, if_pos ⟨hc, hg⟩]
    have hreach : reach g [] = cells (number g).nodes := by
      unfold reach
      rw [List.append_nil]
    refine ⟨fun h => absurd h (by rw [er]; exact exec_e _ _ _), fun _ => ?_⟩
    have := peak_ge (chk_ok hc).2.2.1 F 1000 (reach g []) (start g g) (start_well hg) (by rw [hreach]; exact Nat.le_refl _)
    rw [er, ep]
    refine ⟨?_, this.2⟩
    rw [← hreach]; exact this.1
  · have er : runM g F l = ⟨(chk l).2, (chk l).1, F, [], g⟩ := by rw [runM, if_pos hg, if_neg (by omega)]
    have ep : peakM g F l = 0 := by rw [peakM, if_neg (by omega)]
    exact ⟨fun _ => ep, fun h => absurd (by rw [er]; exact hc) h⟩

end Go.Proofs.YteminkohgagedaaGreat.Mo
namespace Go.Proofs.YteminkohgagedaaGreat.Rf
open Go.RowKit Go.Proofs.YteminkohgagedaaGreat.Base Go.Proofs.YteminkohgagedaaGreat.Gr Go.Proofs.YteminkohgagedaaGreat.Ver Go.Proofs.YteminkohgagedaaGreat.Mo
set_option linter.unusedVariables false
set_option linter.unusedSimpArgs false

theorem step_last14 {x : Ins} {σ : St} (h14 : x.op ≠ 14) : (Mo.step x σ).2.last = σ.last := by
  by_cases e1 : x.op = 1
  · (rw [step_1 σ e1]) <;> first | rfl | (split <;> rfl) | (dsimp only; split <;> rfl)
  by_cases e2 : x.op = 2
  · (rw [step_2 σ e2]) <;> first | rfl | (split <;> rfl) | (dsimp only; split <;> rfl)
  by_cases e3 : x.op = 3
  · (rw [step_3 σ e3]) <;> first | rfl | (split <;> rfl) | (dsimp only; split <;> rfl)
  by_cases e4 : x.op = 4
  · (rw [step_4 σ e4]) <;> first | rfl | (split <;> rfl) | (dsimp only; split <;> rfl)
  by_cases e5 : x.op = 5
  · (rw [step_5 σ e5]) <;> first | rfl | (split <;> rfl) | (dsimp only; split <;> rfl)
  by_cases e6 : x.op = 6
  · (rw [step_6 σ e6]) <;> first | rfl | (split <;> rfl) | (dsimp only; split <;> rfl)
  by_cases e7 : x.op = 7
  · (rw [step_7 σ e7]) <;> first | rfl | (split <;> rfl) | (dsimp only; split <;> rfl)
  by_cases e8 : x.op = 8
  · (rw [step_8 σ e8]) <;> first | rfl | (split <;> rfl) | (dsimp only; split <;> rfl)
  by_cases e9 : x.op = 9
  · (rw [step_9 σ e9]) <;> first | rfl | (split <;> rfl) | (dsimp only; split <;> rfl)
  by_cases e10 : x.op = 10
  · (rw [step_10 σ e10]) <;> first | rfl | (split <;> rfl) | (dsimp only; split <;> rfl)
  by_cases e11 : x.op = 11
  · (rw [step_11 σ e11]) <;> first | rfl | (split <;> rfl) | (dsimp only; split <;> rfl)
  by_cases e12 : x.op = 12
  · (rw [step_12 σ e12]) <;> first | rfl | (split <;> rfl) | (dsimp only; split <;> rfl)
  by_cases e13 : x.op = 13
  · (rw [step_13 σ e13]) <;> first | rfl | (split <;> rfl) | (dsimp only; split <;> rfl)
  by_cases e15 : x.op = 15
  · (rw [step_15 σ e15]) <;> first | rfl | (split <;> rfl) | (dsimp only; split <;> rfl)
  by_cases e16 : x.op = 16
  · (rw [step_16 σ e16]) <;> first | rfl | (split <;> rfl) | (dsimp only; split <;> rfl)
  by_cases e17 : x.op = 17
  · (rw [step_17 σ e17]) <;> first | rfl | (split <;> rfl) | (dsimp only; split <;> rfl)
  by_cases e18 : x.op = 18
  · (rw [step_18 σ e18]) <;> first | rfl | (split <;> rfl) | (dsimp only; split <;> rfl)
  by_cases e19 : x.op = 19
  · (rw [step_19 σ e19]) <;> first | rfl | (split <;> rfl) | (dsimp only; split <;> rfl)
  by_cases e20 : x.op = 20
  · (rw [step_20 σ e20]) <;> first | rfl | (split <;> rfl) | (dsimp only; split <;> rfl)
  by_cases e21 : x.op = 21
  · (rw [step_21 σ e21]) <;> first | rfl | (split <;> rfl) | (dsimp only; split <;> rfl)
  have hs : Mo.step x σ = (if gt σ.refs x.b = 0 then (7, σ) else (0, { σ with nums := pu σ.nums x.a ((nd σ.now (gt σ.refs x.b)).words.length) })) := by
    unfold Mo.step
    simp only [e1, e2, e3, e4, e5, e6, e7, e8, e9, e10, e11, e12, e13, e15, e16, e17, e18, e19, e20, e21, h14, if_false]
  rw [hs]
  split <;> rfl
/-- The graph that counts is numbered. -/
def Numd (σ : St) : Prop := ∃ N h, Sound N h ∧ σ.last = number h
theorem rstep_numd {N : Nat} {x : Ins} {σ : St} (hw : Well N σ) (h : Numd σ) : Numd (rstep x σ).2 := by
  by_cases e : x.op = 14
  · have e1 : rstep x σ = (0, { σ with last := number σ.now }) := if_pos e
    rw [e1]
    exact ⟨N, σ.now, hw.now, rfl⟩
  · have e1 : rstep x σ = Mo.step x σ := if_neg e
    rw [e1]
    obtain ⟨M, k, h1, h2⟩ := h
    exact ⟨M, k, h1, (step_last14 e).trans h2⟩
theorem rexec_numd {l : List Ins} (hl : ∀ x ∈ l, x.ok l.length = true) : ∀ (n N m : Nat) (σ : St), Well N σ → Numd σ → Numd (rexec l n σ m).1.σ := by
  intro n
  induction n with
  | zero =>
    intro N m σ hw h
    unfold rexec
    split <;> exact h
  | succ n ih =>
    intro N m σ hw h
    unfold rexec
    by_cases hlt : σ.pc < l.length
    · rw [if_pos hlt]
      by_cases h0 : (insAt l σ.pc).op = 0
      · rw [if_pos h0]
        exact h
      · rw [if_neg h0]
        have hok := ins_ok hl hlt
        have hw1 := rstep_well hok (well_pc hw (σ.pc + 1))
        have hn1 : Numd (rstep (insAt l σ.pc) { σ with pc := σ.pc + 1 }).2 := rstep_numd (well_pc hw (σ.pc + 1)) h
        by_cases h1 : (rstep (insAt l σ.pc) { σ with pc := σ.pc + 1 }).1 = 0
        · rw [if_pos h1]
          exact ih (N + 1) _ _ hw1 hn1
        · rw [if_neg h1]
          exact hn1
    · rw [if_neg hlt]
      exact h
theorem number_numd {σ : St} (h : Numd σ) : number σ.last = σ.last := by
  obtain ⟨N, k, h1, h2⟩ := h
  rw [h2]
  exact ((init_iso (well_sound h1)).number (well_sound h1) (well_sound (sound_number h1))).symm
theorem all_same {g : Gr} (hr : right g = true) (F : Nat) (l : List Ins) :
    (runM g F l).e = (rrunM g F l).1.e ∧ (runM g F l).at_ = (rrunM g F l).1.at_ ∧ (runM g F l).left = (rrunM g F l).1.left ∧ (runM g F l).outs = (rrunM g F l).1.outs ∧ (runM g F l).gr = (rrunM g F l).1.gr ∧ peakM g F l = (rrunM g F l).2 := by
  rcases chk_zero l with hc | hc
  · obtain ⟨-, -, hok, -⟩ := chk_ok hc
    obtain ⟨⟨a1, a2, a3⟩, a4, a5, a6⟩ := run_same hr F l hok
    have e0 : reach g [] = cells (number g).nodes := by unfold reach; rw [List.append_nil]
    have hnd := number_numd (rexec_numd hok F 1000 (reach g []) (Mo.start g (number g)) (by
      have hst := start_well hr
      exact ⟨hst.now, sound_number (sound_right hr), hst.refs, hst.refsN, hst.nums, hst.numsN, hst.outs, hst.outsN⟩) ⟨1000, g, sound_right hr, rfl⟩)
    rw [e0] at a1 a2 a3 a4 a5 a6 hnd
    rw [hnd] at a5
    unfold runM rrunM peakM
    rw [if_pos hr, if_pos hc, if_pos hc, if_pos ⟨hc, hr⟩, e0]
    exact ⟨a1, by simp only; rw [a2]; rfl, by simp only; rw [a3]; rfl, a4, a5, a6⟩
  · unfold runM rrunM peakM
    rw [if_pos hr, if_neg (by omega), if_neg (by omega), if_neg (fun h => by have := h.1; omega)]
    exact ⟨hc, rfl, rfl, rfl, rfl, rfl⟩
theorem not_right {g : Gr} (hr : right g = false) (F : Nat) (l : List Ins) : (runM g F l).e = 1 ∧ (runM g F l).gr = g ∧ (runM g F l).outs = [] ∧ peakM g F l = 0 := by
  unfold runM peakM
  rw [if_neg (by rw [hr]; decide), if_neg (fun h => by rw [hr] at h; exact absurd h.2 (by decide))]
  exact ⟨rfl, rfl, rfl, rfl⟩
end Go.Proofs.YteminkohgagedaaGreat.Rf
