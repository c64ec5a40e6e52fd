/- The reference's machine: field. Printed by gen_rffield.py. -/
import Derived.Test.YteminkohgagedaaGreatQRfFlag
namespace Go.Proofs.YteminkohgagedaaGreat.Rf
open Go.RowKit Go.Proofs.YteminkohgagedaaGreat.Base Go.Proofs.YteminkohgagedaaGreat.Gr Go.Proofs.YteminkohgagedaaGreat.Ver Go.Proofs.YteminkohgagedaaGreat.Mo
set_option linter.unusedVariables false
set_option linter.unusedSimpArgs false

theorem NM.at2 {w : World} {o : Nat → Tag} {b : Bool} {D : Option Addr} {d : Nat} {xs : List Value} {ns : List Nd} (h : NM w o b D d xs ns) (j : Nat) (hj : j < ns.length) : ∃ M A c B d', D = some ⟨M, 0, none⟩ ∧ M < w.heap.size ∧ (xs[j * 2]? = some (.slice A ns[j].slots.length c) ∧ xs[j * 2 + 1]? = some (.slice B ns[j].words.length d')) ∧ w.cell? ⟨M, j * 2, none⟩ = some (.slice A ns[j].slots.length c) ∧ w.cell? ⟨M, j * 2 + 1, none⟩ = some (.slice B ns[j].words.length d') ∧
    Pc w o (.slots b j) A c ns[j].slots ∧ Pc w o (.words b j) B d' ns[j].words := by
  obtain ⟨M, rfl⟩ := Mo.own_some h.own (by omega)
  obtain ⟨A', c', B', d', x1, x2, i1, i2⟩ := h.built j hj
  have hc := (Reads.of_own h.own).2 (by rw [h.own.1]; omega)
  obtain ⟨ad, e, hc⟩ := hc
  injection e with e
  subst e
  have y1 := hc _ _ x1
  have y2 := hc _ _ x2
  rw [add_of_zero] at y1 y2
  exact ⟨M, A', c', B', d', rfl, h.lt rfl, ⟨x1, x2⟩, y1, y2, i1, i2⟩
theorem name_two {a : Int} {n : Nat} (h0 : 0 ≤ a) (h1 : a ≤ n) : a = 0 ∨ ∃ j : Nat, j < n ∧ a = (j : Int) + 1 := by
  rcases (by omega : a = 0 ∨ 1 ≤ a) with h | h
  · exact .inl h
  · exact .inr ⟨(a - 1).toNat, by omega, by omega⟩
theorem at_nil (i : Int) (l : List Int) : atE 0 i l = 7 := rfl
theorem at_far {a i : Int} {l : List Int} (ha : a ≠ 0) (h : (l.length : Int) ≤ i) : atE a i l = 8 := by rw [atE, if_neg ha, if_pos h]
theorem at_in {a i : Int} {l : List Int} (ha : a ≠ 0) (h : ¬ (l.length : Int) ≤ i) : atE a i l = 0 := by rw [atE, if_neg ha, if_neg h]
set_option maxRecDepth 100000 in
set_option maxHeartbeats 4000000 in
theorem field_8 {w : World} {o : Nat → Tag} {B P : Nat} {σ : St} {most : Int} (h : RMo w o B P σ most) (N : Nat) (hN : N ≤ 100000) (hw : Well N σ) (x : Ins) (n : Nat) (hx : x.ok n = true) (e : x.op = 8) :
    Calls Tryz.prog 84 #[.pointer (some ⟨P, 0, none⟩), .agg #[.int .i64 x.op, .int .i64 x.a, .int .i64 x.b, .int .i64 x.c]] w fun en w' => en = .returned (.int .i64 (Mo.step x σ).1) ∧ RDone w o B P most (Mo.step x σ).2 w' := by
  obtain ⟨A, c, D, d, xs, u0, u1, cs, h⟩ := h
  obtain ⟨p1, p2, p3⟩ := okp hx
  have z0 := h.blk.lt
  have z1 : P < w.heap.size + 1 := by omega
  have hrl := hw.refs
  have hnl := hw.nums
  have hsm := sound_small hw.now
  have hnn : σ.now.nodes.length ≤ 100000 := Nat.le_trans hw.now.size hN
  have hst := step_8 σ e
  rw [e] at p1 p2 p3
  obtain ⟨ia, ea, ha⟩ := reg_of (by decide) p1
  obtain ⟨ib, eb, hb⟩ := reg_of (by decide) p2
  obtain ⟨ic, ec, hc⟩ := free_of p3
  rw [hst]
  obtain ⟨op, xa, xb, xc⟩ := x
  simp only at e ea eb ec
  subst e ea eb ec
  dsimp only
  have ha1 : (ia : Int) < 4 := by omega
  have hb1 : (ib : Int) < 4 := by omega
  have hnm := named_gt (ib : Int) hw.refsN (by omega)
  have d0 := (h.blk.cell (2 + ib)).trans (h.mc.a ib hb)
  have c1 := (h.blk.cell 1).trans h.mc.c1
  have f0 := h.blk.frozen (2 + ia)
  have dd := (h.blk.cell (2 + ia)).trans (h.mc.a ia ha)
  generalize hga : gt σ.refs (ib : Int) = ga at *
  rcases name_two hnm.1 hnm.2 with rfl | ⟨j, hj, rfl⟩
  · have HE := Lib.hid (fun ob q => h.same ob q)
    have KN := Lib.hid (fun (W : World) (hc : W.cell? ⟨P, 2 + ib, none⟩ = some (.int .i64 0)) => rnode_nil W P ib hb hc)
    simp only [at_nil, Int.reduceEq, if_false]
    clear h hw hx p1 p2 p3 hst hsm
    go_enter Tryz.func84, Tryz.ntmps84
    go_wp2_with fail
    refine (KN.out _ (((below_1 _ _).cell (p := ⟨P, 2 + ib, none⟩) z0).trans d0)).mono ?_
    rintro e w1 ⟨rfl, rfl⟩
    go_wp2_with fail
    go_ret
    exact ⟨rfl, HE.out _ 0⟩
  · obtain ⟨M, A5, c5, B5, d5, rfl, hM, ⟨hx1, hx2⟩, n1, n2, hp5, hq5⟩ := NM.at2 h.g.nodes j hj
    have hl5 := hsm _ (List.getElem_mem hj)
    obtain ⟨hl5, hl6⟩ := hl5
    have KN := Lib.hid (fun (W : World) (hc : W.cell? ⟨P, 2 + ib, none⟩ = some (.int .i64 ((j : Int) + 1))) (hN : W.cell? ⟨P, 1, none⟩ = some (.slice (some ⟨M, 0, none⟩) σ.now.nodes.length d)) => rnode_at W P ib j M σ.now.nodes.length d hb hc hN hj hnn)
    have e0 : ¬ ((j : Int) + 1 = 0) := by omega
    have zM1 : M < w.heap.size + 1 := by omega
    have HKN := Lib.hid (fun (ob : Obj) => KN.out (w.alloc ob) (((below_1 w ob).cell (p := ⟨P, 2 + ib, none⟩) z0).trans d0) (((below_1 w ob).cell (p := ⟨P, 1, none⟩) z0).trans c1))
    rw [nd_nat hj]
    by_cases hfar : (σ.now.nodes[j].slots.length : Int) ≤ ic
    · simp only [at_far e0 hfar, Int.reduceEq, if_false]
      have HE := Lib.hid (fun ob q => h.same ob q)
      have t0 : decide ((ic : Int) < σ.now.nodes[j].slots.length) = false := decide_eq_false (by omega)
      have t1 : decide (ic < σ.now.nodes[j].slots.length) = false := decide_eq_false (by omega)
      generalize hy : σ.now.nodes[j] = y at *
      clear h hw hx p1 p2 p3 hst hsm d0 c1 hga hfar
      go_enter Tryz.func84, Tryz.ntmps84
      go_wp2_with fail
      refine (HKN.out _).mono ?_
      rintro e w1 ⟨rfl, q, rfl⟩
      go_wp2_with fail
      go_quiet (fail)
      go_wp2_with fail
      go_ret
      exact ⟨rfl, HE.out _ _⟩
    · simp only [at_in e0 hfar, if_true]
      have hk : ic < σ.now.nodes[j].slots.length := by omega
      obtain ⟨g, rfl, hg, htg⟩ := hp5.some_ (by omega)
      have t0 : decide ((ic : Int) < σ.now.nodes[j].slots.length) = true := decide_eq_true (by omega)
      have t1 : decide (ic < σ.now.nodes[j].slots.length) = true := decide_eq_true (by omega)
      have s0 := hp5.cell ic hk
      have s1 := hp5.frozen ic
      have zg1 : g < w.heap.size + 1 := by omega
      have HE := Lib.hid (fun ob q v => h.refW hrl ia ha v ob q)
      rw [gt_nat hk]
      generalize σ.now.nodes[j].slots[ic] = vv at *
      clear h hw hx p1 p2 p3 hst hsm d0 c1 hga hfar
      go_enter Tryz.func84, Tryz.ntmps84
      go_wp2_with fail
      refine (HKN.out _).mono ?_
      rintro e w1 ⟨rfl, q, rfl⟩
      go_wp2_with fail
      go_quiet (fail)
      go_wp2_with fail
      go_region
      go_wp2_with fail
      go_ret
      exact ⟨rfl, HE.out _ _ _⟩
set_option maxRecDepth 100000 in
set_option maxHeartbeats 4000000 in
theorem field_9 {w : World} {o : Nat → Tag} {B P : Nat} {σ : St} {most : Int} (h : RMo w o B P σ most) (N : Nat) (hN : N ≤ 100000) (hw : Well N σ) (x : Ins) (n : Nat) (hx : x.ok n = true) (e : x.op = 9) :
    Calls Tryz.prog 84 #[.pointer (some ⟨P, 0, none⟩), .agg #[.int .i64 x.op, .int .i64 x.a, .int .i64 x.b, .int .i64 x.c]] w fun en w' => en = .returned (.int .i64 (Mo.step x σ).1) ∧ RDone w o B P most (Mo.step x σ).2 w' := by
  obtain ⟨A, c, D, d, xs, u0, u1, cs, h⟩ := h
  obtain ⟨p1, p2, p3⟩ := okp hx
  have z0 := h.blk.lt
  have z1 : P < w.heap.size + 1 := by omega
  have hrl := hw.refs
  have hnl := hw.nums
  have hsm := sound_small hw.now
  have hnn : σ.now.nodes.length ≤ 100000 := Nat.le_trans hw.now.size hN
  have hst := step_9 σ e
  rw [e] at p1 p2 p3
  obtain ⟨ia, ea, ha⟩ := reg_of (by decide) p1
  obtain ⟨ib, eb, hb⟩ := reg_of (by decide) p2
  obtain ⟨ic, ec, hc⟩ := free_of p3
  rw [hst]
  obtain ⟨op, xa, xb, xc⟩ := x
  simp only at e ea eb ec
  subst e ea eb ec
  dsimp only
  have ha1 : (ia : Int) < 4 := by omega
  have hb1 : (ib : Int) < 4 := by omega
  have hnm := named_gt (ia : Int) hw.refsN (by omega)
  have d0 := (h.blk.cell (2 + ia)).trans (h.mc.a ia ha)
  have c1 := (h.blk.cell 1).trans h.mc.c1
  have dv := (h.blk.cell (2 + ib)).trans (h.mc.a ib hb)
  generalize hga : gt σ.refs (ia : Int) = ga at *
  rcases name_two hnm.1 hnm.2 with rfl | ⟨j, hj, rfl⟩
  · have HE := Lib.hid (fun ob q => h.same ob q)
    have KN := Lib.hid (fun (W : World) (hc : W.cell? ⟨P, 2 + ia, none⟩ = some (.int .i64 0)) => rnode_nil W P ia ha hc)
    simp only [at_nil, Int.reduceEq, if_false]
    clear h hw hx p1 p2 p3 hst hsm
    go_enter Tryz.func84, Tryz.ntmps84
    go_wp2_with fail
    refine (KN.out _ (((below_1 _ _).cell (p := ⟨P, 2 + ia, none⟩) z0).trans d0)).mono ?_
    rintro e w1 ⟨rfl, rfl⟩
    go_wp2_with fail
    go_ret
    exact ⟨rfl, HE.out _ 0⟩
  · obtain ⟨M, A5, c5, B5, d5, rfl, hM, ⟨hx1, hx2⟩, n1, n2, hp5, hq5⟩ := NM.at2 h.g.nodes j hj
    have hl5 := hsm _ (List.getElem_mem hj)
    obtain ⟨hl5, hl6⟩ := hl5
    have KN := Lib.hid (fun (W : World) (hc : W.cell? ⟨P, 2 + ia, none⟩ = some (.int .i64 ((j : Int) + 1))) (hN : W.cell? ⟨P, 1, none⟩ = some (.slice (some ⟨M, 0, none⟩) σ.now.nodes.length d)) => rnode_at W P ia j M σ.now.nodes.length d ha hc hN hj hnn)
    have e0 : ¬ ((j : Int) + 1 = 0) := by omega
    have zM1 : M < w.heap.size + 1 := by omega
    have HKN := Lib.hid (fun (ob : Obj) => KN.out (w.alloc ob) (((below_1 w ob).cell (p := ⟨P, 2 + ia, none⟩) z0).trans d0) (((below_1 w ob).cell (p := ⟨P, 1, none⟩) z0).trans c1))
    rw [nd_nat hj]
    by_cases hfar : (σ.now.nodes[j].slots.length : Int) ≤ ic
    · simp only [at_far e0 hfar, Int.reduceEq, if_false]
      have HE := Lib.hid (fun ob q => h.same ob q)
      have t0 : decide ((ic : Int) < σ.now.nodes[j].slots.length) = false := decide_eq_false (by omega)
      have t1 : decide (ic < σ.now.nodes[j].slots.length) = false := decide_eq_false (by omega)
      generalize hy : σ.now.nodes[j] = y at *
      clear h hw hx p1 p2 p3 hst hsm d0 c1 hga hfar
      go_enter Tryz.func84, Tryz.ntmps84
      go_wp2_with fail
      refine (HKN.out _).mono ?_
      rintro e w1 ⟨rfl, q, rfl⟩
      go_wp2_with fail
      go_quiet (fail)
      go_wp2_with fail
      go_ret
      exact ⟨rfl, HE.out _ _⟩
    · simp only [at_in e0 hfar, if_true]
      have hk : ic < σ.now.nodes[j].slots.length := by omega
      obtain ⟨g, rfl, hg, htg⟩ := hp5.some_ (by omega)
      have t0 : decide ((ic : Int) < σ.now.nodes[j].slots.length) = true := decide_eq_true (by omega)
      have t1 : decide (ic < σ.now.nodes[j].slots.length) = true := decide_eq_true (by omega)
      have s0 := hp5.cell ic hk
      have s1 := hp5.frozen ic
      have zg1 : g < w.heap.size + 1 := by omega
      have HE := Lib.hid (fun ob q v => h.slotW hj hx1 htg ic v ob q)
      clear h hw hx p1 p2 p3 hst hsm d0 c1 hga hfar
      go_enter Tryz.func84, Tryz.ntmps84
      go_wp2_with fail
      refine (HKN.out _).mono ?_
      rintro e w1 ⟨rfl, q, rfl⟩
      go_wp2_with fail
      go_quiet (fail)
      go_wp2_with fail
      go_region
      go_wp2_with fail
      go_ret
      exact ⟨rfl, HE.out _ _ _⟩
set_option maxRecDepth 100000 in
set_option maxHeartbeats 4000000 in
theorem field_10 {w : World} {o : Nat → Tag} {B P : Nat} {σ : St} {most : Int} (h : RMo w o B P σ most) (N : Nat) (hN : N ≤ 100000) (hw : Well N σ) (x : Ins) (n : Nat) (hx : x.ok n = true) (e : x.op = 10) :
    Calls Tryz.prog 84 #[.pointer (some ⟨P, 0, none⟩), .agg #[.int .i64 x.op, .int .i64 x.a, .int .i64 x.b, .int .i64 x.c]] w fun en w' => en = .returned (.int .i64 (Mo.step x σ).1) ∧ RDone w o B P most (Mo.step x σ).2 w' := by
  obtain ⟨A, c, D, d, xs, u0, u1, cs, h⟩ := h
  obtain ⟨p1, p2, p3⟩ := okp hx
  have z0 := h.blk.lt
  have z1 : P < w.heap.size + 1 := by omega
  have hrl := hw.refs
  have hnl := hw.nums
  have hsm := sound_small hw.now
  have hnn : σ.now.nodes.length ≤ 100000 := Nat.le_trans hw.now.size hN
  have hst := step_10 σ e
  rw [e] at p1 p2 p3
  obtain ⟨ia, ea, ha⟩ := reg_of (by decide) p1
  obtain ⟨ib, eb, hb⟩ := reg_of (by decide) p2
  obtain ⟨ic, ec, hc⟩ := free_of p3
  rw [hst]
  obtain ⟨op, xa, xb, xc⟩ := x
  simp only at e ea eb ec
  subst e ea eb ec
  dsimp only
  have ha1 : (ia : Int) < 4 := by omega
  have hb1 : (ib : Int) < 4 := by omega
  have hnm := named_gt (ib : Int) hw.refsN (by omega)
  have d0 := (h.blk.cell (2 + ib)).trans (h.mc.a ib hb)
  have c1 := (h.blk.cell 1).trans h.mc.c1
  have f0 := h.blk.frozen (6 + ia)
  have dd := (h.blk.cell (6 + ia)).trans (h.mc.n ia ha)
  generalize hga : gt σ.refs (ib : Int) = ga at *
  rcases name_two hnm.1 hnm.2 with rfl | ⟨j, hj, rfl⟩
  · have HE := Lib.hid (fun ob q => h.same ob q)
    have KN := Lib.hid (fun (W : World) (hc : W.cell? ⟨P, 2 + ib, none⟩ = some (.int .i64 0)) => rnode_nil W P ib hb hc)
    simp only [at_nil, Int.reduceEq, if_false]
    clear h hw hx p1 p2 p3 hst hsm
    go_enter Tryz.func84, Tryz.ntmps84
    go_wp2_with fail
    refine (KN.out _ (((below_1 _ _).cell (p := ⟨P, 2 + ib, none⟩) z0).trans d0)).mono ?_
    rintro e w1 ⟨rfl, rfl⟩
    go_wp2_with fail
    go_ret
    exact ⟨rfl, HE.out _ 0⟩
  · obtain ⟨M, A5, c5, B5, d5, rfl, hM, ⟨hx1, hx2⟩, n1, n2, hp5, hq5⟩ := NM.at2 h.g.nodes j hj
    have hl5 := hsm _ (List.getElem_mem hj)
    obtain ⟨hl5, hl6⟩ := hl5
    have KN := Lib.hid (fun (W : World) (hc : W.cell? ⟨P, 2 + ib, none⟩ = some (.int .i64 ((j : Int) + 1))) (hN : W.cell? ⟨P, 1, none⟩ = some (.slice (some ⟨M, 0, none⟩) σ.now.nodes.length d)) => rnode_at W P ib j M σ.now.nodes.length d hb hc hN hj hnn)
    have e0 : ¬ ((j : Int) + 1 = 0) := by omega
    have zM1 : M < w.heap.size + 1 := by omega
    have HKN := Lib.hid (fun (ob : Obj) => KN.out (w.alloc ob) (((below_1 w ob).cell (p := ⟨P, 2 + ib, none⟩) z0).trans d0) (((below_1 w ob).cell (p := ⟨P, 1, none⟩) z0).trans c1))
    rw [nd_nat hj]
    by_cases hfar : (σ.now.nodes[j].words.length : Int) ≤ ic
    · simp only [at_far e0 hfar, Int.reduceEq, if_false]
      have HE := Lib.hid (fun ob q => h.same ob q)
      have t0 : decide ((ic : Int) < σ.now.nodes[j].words.length) = false := decide_eq_false (by omega)
      have t1 : decide (ic < σ.now.nodes[j].words.length) = false := decide_eq_false (by omega)
      generalize hy : σ.now.nodes[j] = y at *
      clear h hw hx p1 p2 p3 hst hsm d0 c1 hga hfar
      go_enter Tryz.func84, Tryz.ntmps84
      go_wp2_with fail
      refine (HKN.out _).mono ?_
      rintro e w1 ⟨rfl, q, rfl⟩
      go_wp2_with fail
      go_quiet (fail)
      go_wp2_with fail
      go_ret
      exact ⟨rfl, HE.out _ _⟩
    · simp only [at_in e0 hfar, if_true]
      have hk : ic < σ.now.nodes[j].words.length := by omega
      obtain ⟨g, rfl, hg, htg⟩ := hq5.some_ (by omega)
      have t0 : decide ((ic : Int) < σ.now.nodes[j].words.length) = true := decide_eq_true (by omega)
      have t1 : decide (ic < σ.now.nodes[j].words.length) = true := decide_eq_true (by omega)
      have s0 := hq5.cell ic hk
      have s1 := hq5.frozen ic
      have zg1 : g < w.heap.size + 1 := by omega
      have HE := Lib.hid (fun ob q v => h.numW hnl ia ha v ob q)
      rw [gt_nat hk]
      generalize σ.now.nodes[j].words[ic] = vv at *
      clear h hw hx p1 p2 p3 hst hsm d0 c1 hga hfar
      go_enter Tryz.func84, Tryz.ntmps84
      go_wp2_with fail
      refine (HKN.out _).mono ?_
      rintro e w1 ⟨rfl, q, rfl⟩
      go_wp2_with fail
      go_quiet (fail)
      go_wp2_with fail
      go_region
      go_wp2_with fail
      go_ret
      exact ⟨rfl, HE.out _ _ _⟩
set_option maxRecDepth 100000 in
set_option maxHeartbeats 4000000 in
theorem field_11 {w : World} {o : Nat → Tag} {B P : Nat} {σ : St} {most : Int} (h : RMo w o B P σ most) (N : Nat) (hN : N ≤ 100000) (hw : Well N σ) (x : Ins) (n : Nat) (hx : x.ok n = true) (e : x.op = 11) :
    Calls Tryz.prog 84 #[.pointer (some ⟨P, 0, none⟩), .agg #[.int .i64 x.op, .int .i64 x.a, .int .i64 x.b, .int .i64 x.c]] w fun en w' => en = .returned (.int .i64 (Mo.step x σ).1) ∧ RDone w o B P most (Mo.step x σ).2 w' := by
  obtain ⟨A, c, D, d, xs, u0, u1, cs, h⟩ := h
  obtain ⟨p1, p2, p3⟩ := okp hx
  have z0 := h.blk.lt
  have z1 : P < w.heap.size + 1 := by omega
  have hrl := hw.refs
  have hnl := hw.nums
  have hsm := sound_small hw.now
  have hnn : σ.now.nodes.length ≤ 100000 := Nat.le_trans hw.now.size hN
  have hst := step_11 σ e
  rw [e] at p1 p2 p3
  obtain ⟨ia, ea, ha⟩ := reg_of (by decide) p1
  obtain ⟨ib, eb, hb⟩ := reg_of (by decide) p2
  obtain ⟨ic, ec, hc⟩ := free_of p3
  rw [hst]
  obtain ⟨op, xa, xb, xc⟩ := x
  simp only at e ea eb ec
  subst e ea eb ec
  dsimp only
  have ha1 : (ia : Int) < 4 := by omega
  have hb1 : (ib : Int) < 4 := by omega
  have hnm := named_gt (ia : Int) hw.refsN (by omega)
  have d0 := (h.blk.cell (2 + ia)).trans (h.mc.a ia ha)
  have c1 := (h.blk.cell 1).trans h.mc.c1
  have dv := (h.blk.cell (6 + ib)).trans (h.mc.n ib hb)
  generalize hga : gt σ.refs (ia : Int) = ga at *
  rcases name_two hnm.1 hnm.2 with rfl | ⟨j, hj, rfl⟩
  · have HE := Lib.hid (fun ob q => h.same ob q)
    have KN := Lib.hid (fun (W : World) (hc : W.cell? ⟨P, 2 + ia, none⟩ = some (.int .i64 0)) => rnode_nil W P ia ha hc)
    simp only [at_nil, Int.reduceEq, if_false]
    clear h hw hx p1 p2 p3 hst hsm
    go_enter Tryz.func84, Tryz.ntmps84
    go_wp2_with fail
    refine (KN.out _ (((below_1 _ _).cell (p := ⟨P, 2 + ia, none⟩) z0).trans d0)).mono ?_
    rintro e w1 ⟨rfl, rfl⟩
    go_wp2_with fail
    go_ret
    exact ⟨rfl, HE.out _ 0⟩
  · obtain ⟨M, A5, c5, B5, d5, rfl, hM, ⟨hx1, hx2⟩, n1, n2, hp5, hq5⟩ := NM.at2 h.g.nodes j hj
    have hl5 := hsm _ (List.getElem_mem hj)
    obtain ⟨hl5, hl6⟩ := hl5
    have KN := Lib.hid (fun (W : World) (hc : W.cell? ⟨P, 2 + ia, none⟩ = some (.int .i64 ((j : Int) + 1))) (hN : W.cell? ⟨P, 1, none⟩ = some (.slice (some ⟨M, 0, none⟩) σ.now.nodes.length d)) => rnode_at W P ia j M σ.now.nodes.length d ha hc hN hj hnn)
    have e0 : ¬ ((j : Int) + 1 = 0) := by omega
    have zM1 : M < w.heap.size + 1 := by omega
    have HKN := Lib.hid (fun (ob : Obj) => KN.out (w.alloc ob) (((below_1 w ob).cell (p := ⟨P, 2 + ia, none⟩) z0).trans d0) (((below_1 w ob).cell (p := ⟨P, 1, none⟩) z0).trans c1))
    rw [nd_nat hj]
    by_cases hfar : (σ.now.nodes[j].words.length : Int) ≤ ic
    · simp only [at_far e0 hfar, Int.reduceEq, if_false]
      have HE := Lib.hid (fun ob q => h.same ob q)
      have t0 : decide ((ic : Int) < σ.now.nodes[j].words.length) = false := decide_eq_false (by omega)
      have t1 : decide (ic < σ.now.nodes[j].words.length) = false := decide_eq_false (by omega)
      generalize hy : σ.now.nodes[j] = y at *
      clear h hw hx p1 p2 p3 hst hsm d0 c1 hga hfar
      go_enter Tryz.func84, Tryz.ntmps84
      go_wp2_with fail
      refine (HKN.out _).mono ?_
      rintro e w1 ⟨rfl, q, rfl⟩
      go_wp2_with fail
      go_quiet (fail)
      go_wp2_with fail
      go_ret
      exact ⟨rfl, HE.out _ _⟩
    · simp only [at_in e0 hfar, if_true]
      have hk : ic < σ.now.nodes[j].words.length := by omega
      obtain ⟨g, rfl, hg, htg⟩ := hq5.some_ (by omega)
      have t0 : decide ((ic : Int) < σ.now.nodes[j].words.length) = true := decide_eq_true (by omega)
      have t1 : decide (ic < σ.now.nodes[j].words.length) = true := decide_eq_true (by omega)
      have s0 := hq5.cell ic hk
      have s1 := hq5.frozen ic
      have zg1 : g < w.heap.size + 1 := by omega
      have HE := Lib.hid (fun ob q v => h.wordW hj hx2 htg ic v ob q)
      clear h hw hx p1 p2 p3 hst hsm d0 c1 hga hfar
      go_enter Tryz.func84, Tryz.ntmps84
      go_wp2_with fail
      refine (HKN.out _).mono ?_
      rintro e w1 ⟨rfl, q, rfl⟩
      go_wp2_with fail
      go_quiet (fail)
      go_wp2_with fail
      go_region
      go_wp2_with fail
      go_ret
      exact ⟨rfl, HE.out _ _ _⟩
set_option maxRecDepth 100000 in
set_option maxHeartbeats 4000000 in
theorem field_21 {w : World} {o : Nat → Tag} {B P : Nat} {σ : St} {most : Int} (h : RMo w o B P σ most) (N : Nat) (hN : N ≤ 100000) (hw : Well N σ) (x : Ins) (n : Nat) (hx : x.ok n = true) (e : x.op = 21) :
    Calls Tryz.prog 84 #[.pointer (some ⟨P, 0, none⟩), .agg #[.int .i64 x.op, .int .i64 x.a, .int .i64 x.b, .int .i64 x.c]] w fun en w' => en = .returned (.int .i64 (Mo.step x σ).1) ∧ RDone w o B P most (Mo.step x σ).2 w' := by
  obtain ⟨A, c, D, d, xs, u0, u1, cs, h⟩ := h
  obtain ⟨p1, p2, p3⟩ := okp hx
  have z0 := h.blk.lt
  have z1 : P < w.heap.size + 1 := by omega
  have hrl := hw.refs
  have hnl := hw.nums
  have hsm := sound_small hw.now
  have hnn : σ.now.nodes.length ≤ 100000 := Nat.le_trans hw.now.size hN
  have hst := step_21 σ e
  rw [e] at p1 p2 p3
  obtain ⟨ia, ea, ha⟩ := reg_of (by decide) p1
  obtain ⟨ib, eb, hb⟩ := reg_of (by decide) p2
  obtain ec : x.c = 0 := by simpa [num, shp] using p3
  rw [hst]
  obtain ⟨op, xa, xb, xc⟩ := x
  simp only at e ea eb ec
  subst e ea eb ec
  dsimp only
  have ha1 : (ia : Int) < 4 := by omega
  have hb1 : (ib : Int) < 4 := by omega
  have hnm := named_gt (ib : Int) hw.refsN (by omega)
  have d0 := (h.blk.cell (2 + ib)).trans (h.mc.a ib hb)
  have c1 := (h.blk.cell 1).trans h.mc.c1
  have f0 := h.blk.frozen (6 + ia)
  have dd := (h.blk.cell (6 + ia)).trans (h.mc.n ia ha)
  generalize hga : gt σ.refs (ib : Int) = ga at *
  rcases name_two hnm.1 hnm.2 with rfl | ⟨j, hj, rfl⟩
  · have HE := Lib.hid (fun ob q => h.same ob q)
    have KN := Lib.hid (fun (W : World) (hc : W.cell? ⟨P, 2 + ib, none⟩ = some (.int .i64 0)) => rnode_nil W P ib hb hc)
    simp only [if_true]
    clear h hw hx p1 p2 p3 hst hsm
    go_enter Tryz.func84, Tryz.ntmps84
    go_wp2_with fail
    refine (KN.out _ (((below_1 _ _).cell (p := ⟨P, 2 + ib, none⟩) z0).trans d0)).mono ?_
    rintro e w1 ⟨rfl, rfl⟩
    go_wp2_with fail
    go_ret
    exact ⟨rfl, HE.out _ 0⟩
  · obtain ⟨M, A5, c5, B5, d5, rfl, hM, ⟨hx1, hx2⟩, n1, n2, hp5, hq5⟩ := NM.at2 h.g.nodes j hj
    have hl5 := hsm _ (List.getElem_mem hj)
    obtain ⟨hl5, hl6⟩ := hl5
    have KN := Lib.hid (fun (W : World) (hc : W.cell? ⟨P, 2 + ib, none⟩ = some (.int .i64 ((j : Int) + 1))) (hN : W.cell? ⟨P, 1, none⟩ = some (.slice (some ⟨M, 0, none⟩) σ.now.nodes.length d)) => rnode_at W P ib j M σ.now.nodes.length d hb hc hN hj hnn)
    have e0 : ¬ ((j : Int) + 1 = 0) := by omega
    have zM1 : M < w.heap.size + 1 := by omega
    have HKN := Lib.hid (fun (ob : Obj) => KN.out (w.alloc ob) (((below_1 w ob).cell (p := ⟨P, 2 + ib, none⟩) z0).trans d0) (((below_1 w ob).cell (p := ⟨P, 1, none⟩) z0).trans c1))
    simp only [if_neg e0]
    rw [nd_nat hj]
    have HE := Lib.hid (fun ob q v => h.numW hnl ia ha v ob q)
    generalize hy : σ.now.nodes[j] = y at *
    clear h hw hx p1 p2 p3 hst hsm d0 c1 hga
    go_enter Tryz.func84, Tryz.ntmps84
    go_wp2_with fail
    refine (HKN.out _).mono ?_
    rintro e w1 ⟨rfl, q, rfl⟩
    go_wp2_with fail
    go_quiet (fail)
    go_wp2_with fail
    go_region
    go_wp2_with fail
    go_ret
    exact ⟨rfl, HE.out _ _ _⟩
set_option maxRecDepth 100000 in
set_option maxHeartbeats 4000000 in
theorem field_22 {w : World} {o : Nat → Tag} {B P : Nat} {σ : St} {most : Int} (h : RMo w o B P σ most) (N : Nat) (hN : N ≤ 100000) (hw : Well N σ) (x : Ins) (n : Nat) (hx : x.ok n = true) (e : x.op = 22) :
    Calls Tryz.prog 84 #[.pointer (some ⟨P, 0, none⟩), .agg #[.int .i64 x.op, .int .i64 x.a, .int .i64 x.b, .int .i64 x.c]] w fun en w' => en = .returned (.int .i64 (Mo.step x σ).1) ∧ RDone w o B P most (Mo.step x σ).2 w' := by
  obtain ⟨A, c, D, d, xs, u0, u1, cs, h⟩ := h
  obtain ⟨p1, p2, p3⟩ := okp hx
  have z0 := h.blk.lt
  have z1 : P < w.heap.size + 1 := by omega
  have hrl := hw.refs
  have hnl := hw.nums
  have hsm := sound_small hw.now
  have hnn : σ.now.nodes.length ≤ 100000 := Nat.le_trans hw.now.size hN
  have hst := step_22 σ e
  rw [e] at p1 p2 p3
  obtain ⟨ia, ea, ha⟩ := reg_of (by decide) p1
  obtain ⟨ib, eb, hb⟩ := reg_of (by decide) p2
  obtain ec : x.c = 0 := by simpa [num, shp] using p3
  rw [hst]
  obtain ⟨op, xa, xb, xc⟩ := x
  simp only at e ea eb ec
  subst e ea eb ec
  dsimp only
  have ha1 : (ia : Int) < 4 := by omega
  have hb1 : (ib : Int) < 4 := by omega
  have hnm := named_gt (ib : Int) hw.refsN (by omega)
  have d0 := (h.blk.cell (2 + ib)).trans (h.mc.a ib hb)
  have c1 := (h.blk.cell 1).trans h.mc.c1
  have f0 := h.blk.frozen (6 + ia)
  have dd := (h.blk.cell (6 + ia)).trans (h.mc.n ia ha)
  generalize hga : gt σ.refs (ib : Int) = ga at *
  rcases name_two hnm.1 hnm.2 with rfl | ⟨j, hj, rfl⟩
  · have HE := Lib.hid (fun ob q => h.same ob q)
    have KN := Lib.hid (fun (W : World) (hc : W.cell? ⟨P, 2 + ib, none⟩ = some (.int .i64 0)) => rnode_nil W P ib hb hc)
    simp only [if_true]
    clear h hw hx p1 p2 p3 hst hsm
    go_enter Tryz.func84, Tryz.ntmps84
    go_wp2_with fail
    refine (KN.out _ (((below_1 _ _).cell (p := ⟨P, 2 + ib, none⟩) z0).trans d0)).mono ?_
    rintro e w1 ⟨rfl, rfl⟩
    go_wp2_with fail
    go_ret
    exact ⟨rfl, HE.out _ 0⟩
  · obtain ⟨M, A5, c5, B5, d5, rfl, hM, ⟨hx1, hx2⟩, n1, n2, hp5, hq5⟩ := NM.at2 h.g.nodes j hj
    have hl5 := hsm _ (List.getElem_mem hj)
    obtain ⟨hl5, hl6⟩ := hl5
    have KN := Lib.hid (fun (W : World) (hc : W.cell? ⟨P, 2 + ib, none⟩ = some (.int .i64 ((j : Int) + 1))) (hN : W.cell? ⟨P, 1, none⟩ = some (.slice (some ⟨M, 0, none⟩) σ.now.nodes.length d)) => rnode_at W P ib j M σ.now.nodes.length d hb hc hN hj hnn)
    have e0 : ¬ ((j : Int) + 1 = 0) := by omega
    have zM1 : M < w.heap.size + 1 := by omega
    have HKN := Lib.hid (fun (ob : Obj) => KN.out (w.alloc ob) (((below_1 w ob).cell (p := ⟨P, 2 + ib, none⟩) z0).trans d0) (((below_1 w ob).cell (p := ⟨P, 1, none⟩) z0).trans c1))
    simp only [if_neg e0]
    rw [nd_nat hj]
    have HE := Lib.hid (fun ob q v => h.numW hnl ia ha v ob q)
    generalize hy : σ.now.nodes[j] = y at *
    clear h hw hx p1 p2 p3 hst hsm d0 c1 hga
    go_enter Tryz.func84, Tryz.ntmps84
    go_wp2_with fail
    refine (HKN.out _).mono ?_
    rintro e w1 ⟨rfl, q, rfl⟩
    go_wp2_with fail
    go_quiet (fail)
    go_wp2_with fail
    go_region
    go_wp2_with fail
    go_ret
    exact ⟨rfl, HE.out _ _ _⟩
end Go.Proofs.YteminkohgagedaaGreat.Rf
