/- The reference's machine: Do over roots, and what it leaves to field. Printed by gen_rfdo2.py. -/
import Derived.Test.YteminkohgagedaaGreatQRfField
namespace Go.Proofs.YteminkohgagedaaGreat.Rf
open Go.RowKit Go.Proofs.YteminkohgagedaaGreat.Base Go.Proofs.YteminkohgagedaaGreat.Gr Go.Proofs.YteminkohgagedaaGreat.Ver Go.Proofs.YteminkohgagedaaGreat.Mo
set_option linter.unusedVariables false
set_option linter.unusedSimpArgs false

theorem RDone.of {w w1 w' : World} {o : Nat → Tag} {B P : Nat} {σ : St} {most : Int} (hb : Below w.heap.size w w1) (h : RDone w1 o B P most σ w') : RDone w o B P most σ w' := by
  obtain ⟨o', h1, h2⟩ := h
  exact ⟨o', h1, (Turn.of_below hb).trans h2⟩
theorem RMo.below {w w' : World} {o : Nat → Tag} {B P : Nat} {σ : St} {most : Int} (h : RMo w o B P σ most) (hb : Below w.heap.size w w') : RMo w' o B P σ most := by
  obtain ⟨A, c, D, d, xs, u0, u1, cs, h⟩ := h
  exact ⟨A, c, D, d, xs, u0, u1, cs, h.below hb⟩
theorem Well.pc {N : Nat} {σ : St} (h : Well N σ) (k : Nat) : Well N { σ with pc := k } := ⟨h.now, h.last, h.refs, h.refsN, h.nums, h.numsN, h.outs, h.outsN⟩
set_option maxRecDepth 100000 in
set_option maxHeartbeats 4000000 in
theorem do_12 {w : World} {o : Nat → Tag} {B P : Nat} {σ : St} {most : Int} (h : RMo w o B P σ most) (N : Nat) (hN : N ≤ 100000) (hw : Well N σ) (x : Ins) (n : Nat) (hx : x.ok n = true) (e : x.op = 12) (at_ : Nat) (hat : at_ ≤ 100000) :
    Calls Tryz.prog 37 #[.pointer (some ⟨P, 0, none⟩), .agg #[.int .i64 x.op, .int .i64 x.a, .int .i64 x.b, .int .i64 x.c], .int .i64 (at_ : Int)] w fun en w' => DoPost w o B P most x at_ σ en w' := by
  obtain ⟨A, c, D, d, xs, u0, u1, cs, h⟩ := h
  obtain ⟨p1, p2, p3⟩ := okp hx
  have z0 := h.blk.lt
  have z1 : P < w.heap.size + 1 := by omega
  have hrl := hw.refs
  have hst := step_12 { σ with pc := at_ + 1 } e
  have hrs : rstep x { σ with pc := at_ + 1 } = Mo.step x { σ with pc := at_ + 1 } := if_neg (by rw [e]; decide)
  have htd : told x σ = -1 := if_neg (by rw [e]; decide)
  rw [e] at p1 p2 p3
  obtain ⟨ia, ea, ha⟩ := reg_of (by decide) p1
  obtain ⟨ib, eb, hb⟩ := root_of (by decide) p2
  obtain ec : x.c = 0 := by simpa [num, shp] using p3
  unfold DoPost
  rw [hrs, htd, hst]
  dsimp only
  obtain ⟨op, xa, xb, xc⟩ := x
  simp only at e ea eb ec
  subst e ea eb ec
  have h8 := hw.now.roots
  have c0 := (h.blk.cell 0).trans h.mc.c0
  obtain ⟨g, rfl, hg, htg⟩ := h.g.roots.some_ (by omega)
  have s0 := h.g.roots.cell ib (by omega)
  have s1 := h.g.roots.frozen ib
  have hgt := gt_nat (l := σ.now.roots) (j := ib) (by omega)
  have zg1 : g < w.heap.size + 1 := by omega
  have ha1 : (ia : Int) < 4 := by omega
  have hb1 : (ib : Int) < 8 := by omega
  rw [h8] at c0
  have dd := (h.blk.cell (2 + ia)).trans (h.mc.a ia ha)
  have f0 := h.blk.frozen (2 + ia)
  rw [hgt]
  generalize σ.now.roots[ib]'(by omega) = vv at *
  have HE := Lib.hid (fun ob q v => (h.ref hrl ia ha v ob q).pc (at_ + 1) σ.outs)
  clear h hw hx p1 p2 p3 hst hrs htd
  go_enter Tryz.func37, Tryz.ntmps37
  go_wp2
  go_region
  go_wp2
  go_ret3
  exact ⟨rfl, HE.out _ 1 _⟩
set_option maxRecDepth 100000 in
set_option maxHeartbeats 4000000 in
theorem do_13 {w : World} {o : Nat → Tag} {B P : Nat} {σ : St} {most : Int} (h : RMo w o B P σ most) (N : Nat) (hN : N ≤ 100000) (hw : Well N σ) (x : Ins) (n : Nat) (hx : x.ok n = true) (e : x.op = 13) (at_ : Nat) (hat : at_ ≤ 100000) :
    Calls Tryz.prog 37 #[.pointer (some ⟨P, 0, none⟩), .agg #[.int .i64 x.op, .int .i64 x.a, .int .i64 x.b, .int .i64 x.c], .int .i64 (at_ : Int)] w fun en w' => DoPost w o B P most x at_ σ en w' := by
  obtain ⟨A, c, D, d, xs, u0, u1, cs, h⟩ := h
  obtain ⟨p1, p2, p3⟩ := okp hx
  have z0 := h.blk.lt
  have z1 : P < w.heap.size + 1 := by omega
  have hrl := hw.refs
  have hst := step_13 { σ with pc := at_ + 1 } e
  have hrs : rstep x { σ with pc := at_ + 1 } = Mo.step x { σ with pc := at_ + 1 } := if_neg (by rw [e]; decide)
  have htd : told x σ = -1 := if_neg (by rw [e]; decide)
  rw [e] at p1 p2 p3
  obtain ⟨ia, ea, ha⟩ := reg_of (by decide) p1
  obtain ⟨ib, eb, hb⟩ := root_of (by decide) p2
  obtain ec : x.c = 0 := by simpa [num, shp] using p3
  unfold DoPost
  rw [hrs, htd, hst]
  dsimp only
  obtain ⟨op, xa, xb, xc⟩ := x
  simp only at e ea eb ec
  subst e ea eb ec
  have h8 := hw.now.roots
  have c0 := (h.blk.cell 0).trans h.mc.c0
  obtain ⟨g, rfl, hg, htg⟩ := h.g.roots.some_ (by omega)
  have s0 := h.g.roots.cell ib (by omega)
  have s1 := h.g.roots.frozen ib
  have hgt := gt_nat (l := σ.now.roots) (j := ib) (by omega)
  have zg1 : g < w.heap.size + 1 := by omega
  have ha1 : (ia : Int) < 4 := by omega
  have hb1 : (ib : Int) < 8 := by omega
  rw [h8] at c0
  have dd := (h.blk.cell (2 + ia)).trans (h.mc.a ia ha)
  clear hgt
  generalize σ.now.roots[ib]'(by omega) = vv at *
  have HE := Lib.hid (fun ob q v => (h.root rfl ib v ob q).pc (at_ + 1) σ.outs)
  clear h hw hx p1 p2 p3 hst hrs htd
  go_enter Tryz.func37, Tryz.ntmps37
  go_wp2
  go_region
  go_wp2
  go_ret3
  exact ⟨rfl, HE.out _ 1 _⟩
set_option maxRecDepth 100000 in
set_option maxHeartbeats 4000000 in
theorem do_8 {w : World} {o : Nat → Tag} {B P : Nat} {σ : St} {most : Int} (h : RMo w o B P σ most) (N : Nat) (hN : N ≤ 100000) (hw : Well N σ) (x : Ins) (n : Nat) (hx : x.ok n = true) (e : x.op = 8) (at_ : Nat) (hat : at_ ≤ 100000) :
    Calls Tryz.prog 37 #[.pointer (some ⟨P, 0, none⟩), .agg #[.int .i64 x.op, .int .i64 x.a, .int .i64 x.b, .int .i64 x.c], .int .i64 (at_ : Int)] w fun en w' => DoPost w o B P most x at_ σ en w' := by
  have h1 := h.pc (at_ + 1) σ.outs
  have z0 : True := trivial
  have hrs : rstep x { σ with pc := at_ + 1 } = Mo.step x { σ with pc := at_ + 1 } := if_neg (by rw [e]; decide)
  have htd : told x σ = -1 := if_neg (by rw [e]; decide)
  have hpc : (Mo.step x { σ with pc := at_ + 1 }).2.pc = at_ + 1 := by
    rw [step_8 _ e]
    split <;> rfl
  unfold DoPost
  rw [hrs, htd, hpc]
  have HK := Lib.hid (fun (ob : Obj) => field_8 (h1.below (below_1 w ob)) N hN (Well.pc hw (at_ + 1)) x n hx e)
  generalize Mo.step x { σ with pc := at_ + 1 } = ρ at *
  obtain ⟨op, xa, xb, xc⟩ := x
  simp only at e
  subst e
  clear h h1 hw hx hrs htd hpc
  go_enter Tryz.func37, Tryz.ntmps37
  go_wp2_with fail
  refine (HK.out _).mono ?_
  rintro e w2 ⟨rfl, hd⟩
  go_wp2_with fail
  go_ret3
  exact ⟨rfl, RDone.of (below_1 _ _) hd⟩
set_option maxRecDepth 100000 in
set_option maxHeartbeats 4000000 in
theorem do_9 {w : World} {o : Nat → Tag} {B P : Nat} {σ : St} {most : Int} (h : RMo w o B P σ most) (N : Nat) (hN : N ≤ 100000) (hw : Well N σ) (x : Ins) (n : Nat) (hx : x.ok n = true) (e : x.op = 9) (at_ : Nat) (hat : at_ ≤ 100000) :
    Calls Tryz.prog 37 #[.pointer (some ⟨P, 0, none⟩), .agg #[.int .i64 x.op, .int .i64 x.a, .int .i64 x.b, .int .i64 x.c], .int .i64 (at_ : Int)] w fun en w' => DoPost w o B P most x at_ σ en w' := by
  have h1 := h.pc (at_ + 1) σ.outs
  have z0 : True := trivial
  have hrs : rstep x { σ with pc := at_ + 1 } = Mo.step x { σ with pc := at_ + 1 } := if_neg (by rw [e]; decide)
  have htd : told x σ = -1 := if_neg (by rw [e]; decide)
  have hpc : (Mo.step x { σ with pc := at_ + 1 }).2.pc = at_ + 1 := by
    rw [step_9 _ e]
    split <;> rfl
  unfold DoPost
  rw [hrs, htd, hpc]
  have HK := Lib.hid (fun (ob : Obj) => field_9 (h1.below (below_1 w ob)) N hN (Well.pc hw (at_ + 1)) x n hx e)
  generalize Mo.step x { σ with pc := at_ + 1 } = ρ at *
  obtain ⟨op, xa, xb, xc⟩ := x
  simp only at e
  subst e
  clear h h1 hw hx hrs htd hpc
  go_enter Tryz.func37, Tryz.ntmps37
  go_wp2_with fail
  refine (HK.out _).mono ?_
  rintro e w2 ⟨rfl, hd⟩
  go_wp2_with fail
  go_ret3
  exact ⟨rfl, RDone.of (below_1 _ _) hd⟩
set_option maxRecDepth 100000 in
set_option maxHeartbeats 4000000 in
theorem do_10 {w : World} {o : Nat → Tag} {B P : Nat} {σ : St} {most : Int} (h : RMo w o B P σ most) (N : Nat) (hN : N ≤ 100000) (hw : Well N σ) (x : Ins) (n : Nat) (hx : x.ok n = true) (e : x.op = 10) (at_ : Nat) (hat : at_ ≤ 100000) :
    Calls Tryz.prog 37 #[.pointer (some ⟨P, 0, none⟩), .agg #[.int .i64 x.op, .int .i64 x.a, .int .i64 x.b, .int .i64 x.c], .int .i64 (at_ : Int)] w fun en w' => DoPost w o B P most x at_ σ en w' := by
  have h1 := h.pc (at_ + 1) σ.outs
  have z0 : True := trivial
  have hrs : rstep x { σ with pc := at_ + 1 } = Mo.step x { σ with pc := at_ + 1 } := if_neg (by rw [e]; decide)
  have htd : told x σ = -1 := if_neg (by rw [e]; decide)
  have hpc : (Mo.step x { σ with pc := at_ + 1 }).2.pc = at_ + 1 := by
    rw [step_10 _ e]
    split <;> rfl
  unfold DoPost
  rw [hrs, htd, hpc]
  have HK := Lib.hid (fun (ob : Obj) => field_10 (h1.below (below_1 w ob)) N hN (Well.pc hw (at_ + 1)) x n hx e)
  generalize Mo.step x { σ with pc := at_ + 1 } = ρ at *
  obtain ⟨op, xa, xb, xc⟩ := x
  simp only at e
  subst e
  clear h h1 hw hx hrs htd hpc
  go_enter Tryz.func37, Tryz.ntmps37
  go_wp2_with fail
  refine (HK.out _).mono ?_
  rintro e w2 ⟨rfl, hd⟩
  go_wp2_with fail
  go_ret3
  exact ⟨rfl, RDone.of (below_1 _ _) hd⟩
set_option maxRecDepth 100000 in
set_option maxHeartbeats 4000000 in
theorem do_11 {w : World} {o : Nat → Tag} {B P : Nat} {σ : St} {most : Int} (h : RMo w o B P σ most) (N : Nat) (hN : N ≤ 100000) (hw : Well N σ) (x : Ins) (n : Nat) (hx : x.ok n = true) (e : x.op = 11) (at_ : Nat) (hat : at_ ≤ 100000) :
    Calls Tryz.prog 37 #[.pointer (some ⟨P, 0, none⟩), .agg #[.int .i64 x.op, .int .i64 x.a, .int .i64 x.b, .int .i64 x.c], .int .i64 (at_ : Int)] w fun en w' => DoPost w o B P most x at_ σ en w' := by
  have h1 := h.pc (at_ + 1) σ.outs
  have z0 : True := trivial
  have hrs : rstep x { σ with pc := at_ + 1 } = Mo.step x { σ with pc := at_ + 1 } := if_neg (by rw [e]; decide)
  have htd : told x σ = -1 := if_neg (by rw [e]; decide)
  have hpc : (Mo.step x { σ with pc := at_ + 1 }).2.pc = at_ + 1 := by
    rw [step_11 _ e]
    split <;> rfl
  unfold DoPost
  rw [hrs, htd, hpc]
  have HK := Lib.hid (fun (ob : Obj) => field_11 (h1.below (below_1 w ob)) N hN (Well.pc hw (at_ + 1)) x n hx e)
  generalize Mo.step x { σ with pc := at_ + 1 } = ρ at *
  obtain ⟨op, xa, xb, xc⟩ := x
  simp only at e
  subst e
  clear h h1 hw hx hrs htd hpc
  go_enter Tryz.func37, Tryz.ntmps37
  go_wp2_with fail
  refine (HK.out _).mono ?_
  rintro e w2 ⟨rfl, hd⟩
  go_wp2_with fail
  go_ret3
  exact ⟨rfl, RDone.of (below_1 _ _) hd⟩
set_option maxRecDepth 100000 in
set_option maxHeartbeats 4000000 in
theorem do_21 {w : World} {o : Nat → Tag} {B P : Nat} {σ : St} {most : Int} (h : RMo w o B P σ most) (N : Nat) (hN : N ≤ 100000) (hw : Well N σ) (x : Ins) (n : Nat) (hx : x.ok n = true) (e : x.op = 21) (at_ : Nat) (hat : at_ ≤ 100000) :
    Calls Tryz.prog 37 #[.pointer (some ⟨P, 0, none⟩), .agg #[.int .i64 x.op, .int .i64 x.a, .int .i64 x.b, .int .i64 x.c], .int .i64 (at_ : Int)] w fun en w' => DoPost w o B P most x at_ σ en w' := by
  have h1 := h.pc (at_ + 1) σ.outs
  have z0 : True := trivial
  have hrs : rstep x { σ with pc := at_ + 1 } = Mo.step x { σ with pc := at_ + 1 } := if_neg (by rw [e]; decide)
  have htd : told x σ = -1 := if_neg (by rw [e]; decide)
  have hpc : (Mo.step x { σ with pc := at_ + 1 }).2.pc = at_ + 1 := by
    rw [step_21 _ e]
    split <;> rfl
  unfold DoPost
  rw [hrs, htd, hpc]
  have HK := Lib.hid (fun (ob : Obj) => field_21 (h1.below (below_1 w ob)) N hN (Well.pc hw (at_ + 1)) x n hx e)
  generalize Mo.step x { σ with pc := at_ + 1 } = ρ at *
  obtain ⟨op, xa, xb, xc⟩ := x
  simp only at e
  subst e
  clear h h1 hw hx hrs htd hpc
  go_enter Tryz.func37, Tryz.ntmps37
  go_wp2_with fail
  refine (HK.out _).mono ?_
  rintro e w2 ⟨rfl, hd⟩
  go_wp2_with fail
  go_ret3
  exact ⟨rfl, RDone.of (below_1 _ _) hd⟩
set_option maxRecDepth 100000 in
set_option maxHeartbeats 4000000 in
theorem do_22 {w : World} {o : Nat → Tag} {B P : Nat} {σ : St} {most : Int} (h : RMo w o B P σ most) (N : Nat) (hN : N ≤ 100000) (hw : Well N σ) (x : Ins) (n : Nat) (hx : x.ok n = true) (e : x.op = 22) (at_ : Nat) (hat : at_ ≤ 100000) :
    Calls Tryz.prog 37 #[.pointer (some ⟨P, 0, none⟩), .agg #[.int .i64 x.op, .int .i64 x.a, .int .i64 x.b, .int .i64 x.c], .int .i64 (at_ : Int)] w fun en w' => DoPost w o B P most x at_ σ en w' := by
  have h1 := h.pc (at_ + 1) σ.outs
  have z0 : True := trivial
  have hrs : rstep x { σ with pc := at_ + 1 } = Mo.step x { σ with pc := at_ + 1 } := if_neg (by rw [e]; decide)
  have htd : told x σ = -1 := if_neg (by rw [e]; decide)
  have hpc : (Mo.step x { σ with pc := at_ + 1 }).2.pc = at_ + 1 := by
    rw [step_22 _ e]
    split <;> rfl
  unfold DoPost
  rw [hrs, htd, hpc]
  have HK := Lib.hid (fun (ob : Obj) => field_22 (h1.below (below_1 w ob)) N hN (Well.pc hw (at_ + 1)) x n hx e)
  generalize Mo.step x { σ with pc := at_ + 1 } = ρ at *
  obtain ⟨op, xa, xb, xc⟩ := x
  simp only at e
  subst e
  clear h h1 hw hx hrs htd hpc
  go_enter Tryz.func37, Tryz.ntmps37
  go_wp2_with fail
  refine (HK.out _).mono ?_
  rintro e w2 ⟨rfl, hd⟩
  go_wp2_with fail
  go_ret3
  exact ⟨rfl, RDone.of (below_1 _ _) hd⟩
end Go.Proofs.YteminkohgagedaaGreat.Rf
