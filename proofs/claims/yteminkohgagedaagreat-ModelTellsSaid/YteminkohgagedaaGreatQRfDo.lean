/- The reference's machine: instructions that turn registers alone. Printed by gen_rfdo.py. -/
import Derived.Test.YteminkohgagedaaGreatQRfFlag
namespace Go.Proofs.YteminkohgagedaaGreat.Rf
open Go.RowKit Go.Proofs.YteminkohgagedaaGreat.Base Go.Proofs.YteminkohgagedaaGreat.Gr Go.Proofs.YteminkohgagedaaGreat.Ver Go.Proofs.YteminkohgagedaaGreat.Mo
set_option linter.unusedVariables false
set_option linter.unusedSimpArgs false

set_option maxRecDepth 100000 in
set_option maxHeartbeats 4000000 in
theorem do_1 {w : World} {o : Nat → Tag} {B P : Nat} {σ : St} {most : Int} (h : RMo w o B P σ most) (N : Nat) (hw : Well N σ) (x : Ins) (n : Nat) (hx : x.ok n = true) (e : x.op = 1) (at_ : Nat) (hat : at_ ≤ 100000) :
    Calls Tryz.prog 37 #[.pointer (some ⟨P, 0, none⟩), .agg #[.int .i64 x.op, .int .i64 x.a, .int .i64 x.b, .int .i64 x.c], .int .i64 (at_ : Int)] w fun en w' => DoPost w o B P most x at_ σ en w' := by
  obtain ⟨A, c, D, d, xs, u0, u1, cs, h⟩ := h
  obtain ⟨p1, p2, p3⟩ := okp hx
  have z0 := h.blk.lt
  have z1 : P < w.heap.size + 1 := by omega
  have hrl := hw.refs
  have hnl := hw.nums
  have hst := step_1 { σ with pc := at_ + 1 } e
  have hrs : rstep x { σ with pc := at_ + 1 } = Mo.step x { σ with pc := at_ + 1 } := if_neg (by rw [e]; decide)
  have htd : told x σ = -1 := if_neg (by rw [e]; decide)
  rw [e] at p1 p2 p3
  obtain ⟨ia, ea, ha⟩ := reg_of (by decide) p1
  obtain ⟨ib, eb, hb⟩ := free_of p2
  obtain ⟨ic, ec, hc⟩ := free_of p3
  unfold DoPost
  rw [hrs, htd, hst]
  dsimp only
  obtain ⟨op, xa, xb, xc⟩ := x
  simp only at e ea eb ec
  subst e ea eb ec
  have ha1 : (ia : Int) < 4 := by omega
  have f0 := h.blk.frozen (6 + ia)
  have dd := (h.blk.cell (6 + ia)).trans (h.mc.n ia ha)
  have HE := Lib.hid (fun ob q v => (h.num hnl ia ha v ob q).pc (at_ + 1) σ.outs)
  rw [show rnd ((ib : Int) + 256 * (ic : Int)) = (ib : Int) + 256 * (ic : Int) by unfold rnd; omega]
  clear h hw hx p1 p2 p3 hst hrs htd
  go_enter Tryz.func37, Tryz.ntmps37
  go_wp2
  go_region
  go_wp2
  go_ret3
  exact ⟨rfl, HE.out _ 1 _⟩

set_option maxRecDepth 100000 in
set_option maxHeartbeats 4000000 in
theorem do_2 {w : World} {o : Nat → Tag} {B P : Nat} {σ : St} {most : Int} (h : RMo w o B P σ most) (N : Nat) (hw : Well N σ) (x : Ins) (n : Nat) (hx : x.ok n = true) (e : x.op = 2) (at_ : Nat) (hat : at_ ≤ 100000) :
    Calls Tryz.prog 37 #[.pointer (some ⟨P, 0, none⟩), .agg #[.int .i64 x.op, .int .i64 x.a, .int .i64 x.b, .int .i64 x.c], .int .i64 (at_ : Int)] w fun en w' => DoPost w o B P most x at_ σ en w' := by
  obtain ⟨A, c, D, d, xs, u0, u1, cs, h⟩ := h
  obtain ⟨p1, p2, p3⟩ := okp hx
  have z0 := h.blk.lt
  have z1 : P < w.heap.size + 1 := by omega
  have hrl := hw.refs
  have hnl := hw.nums
  have hst := step_2 { σ with pc := at_ + 1 } e
  have hrs : rstep x { σ with pc := at_ + 1 } = Mo.step x { σ with pc := at_ + 1 } := if_neg (by rw [e]; decide)
  have htd : told x σ = -1 := if_neg (by rw [e]; decide)
  rw [e] at p1 p2 p3
  obtain ⟨ia, ea, ha⟩ := reg_of (by decide) p1
  obtain ⟨ib, eb, hb⟩ := reg_of (by decide) p2
  obtain ⟨ic, ec, hc⟩ := reg_of (by decide) p3
  unfold DoPost
  rw [hrs, htd, hst]
  dsimp only
  obtain ⟨op, xa, xb, xc⟩ := x
  simp only at e ea eb ec
  subst e ea eb ec
  have d0 := (h.blk.cell (6 + ib)).trans (h.mc.n ib hb)
  have d1 := (h.blk.cell (6 + ic)).trans (h.mc.n ic hc)
  have ha1 : (ia : Int) < 4 := by omega
  have hb1 : (ib : Int) < 4 := by omega
  have hc1 : (ic : Int) < 4 := by omega
  have f0 := h.blk.frozen (6 + ia)
  have dd := (h.blk.cell (6 + ia)).trans (h.mc.n ia ha)
  have hv0 := words_gt (ib : Int) hw.numsN
  have hv1 := words_gt (ic : Int) hw.numsN
  have HE := Lib.hid (fun ob q v => (h.num hnl ia ha v ob q).pc (at_ + 1) σ.outs)
  generalize gt σ.nums (ib : Int) = v0 at *
  generalize gt σ.nums (ic : Int) = v1 at *
  clear h hw hx p1 p2 p3 hst hrs htd
  go_enter Tryz.func37, Tryz.ntmps37
  go_wp2
  go_region
  go_wp2
  go_ret3
  exact ⟨rfl, HE.out _ 1 _⟩

set_option maxRecDepth 100000 in
set_option maxHeartbeats 4000000 in
theorem do_3 {w : World} {o : Nat → Tag} {B P : Nat} {σ : St} {most : Int} (h : RMo w o B P σ most) (N : Nat) (hw : Well N σ) (x : Ins) (n : Nat) (hx : x.ok n = true) (e : x.op = 3) (at_ : Nat) (hat : at_ ≤ 100000) :
    Calls Tryz.prog 37 #[.pointer (some ⟨P, 0, none⟩), .agg #[.int .i64 x.op, .int .i64 x.a, .int .i64 x.b, .int .i64 x.c], .int .i64 (at_ : Int)] w fun en w' => DoPost w o B P most x at_ σ en w' := by
  obtain ⟨A, c, D, d, xs, u0, u1, cs, h⟩ := h
  obtain ⟨p1, p2, p3⟩ := okp hx
  have z0 := h.blk.lt
  have z1 : P < w.heap.size + 1 := by omega
  have hrl := hw.refs
  have hnl := hw.nums
  have hst := step_3 { σ with pc := at_ + 1 } e
  have hrs : rstep x { σ with pc := at_ + 1 } = Mo.step x { σ with pc := at_ + 1 } := if_neg (by rw [e]; decide)
  have htd : told x σ = -1 := if_neg (by rw [e]; decide)
  rw [e] at p1 p2 p3
  obtain ⟨ia, ea, ha⟩ := reg_of (by decide) p1
  obtain ⟨ib, eb, hb⟩ := reg_of (by decide) p2
  obtain ⟨ic, ec, hc⟩ := reg_of (by decide) p3
  unfold DoPost
  rw [hrs, htd, hst]
  dsimp only
  obtain ⟨op, xa, xb, xc⟩ := x
  simp only at e ea eb ec
  subst e ea eb ec
  have d0 := (h.blk.cell (6 + ib)).trans (h.mc.n ib hb)
  have d1 := (h.blk.cell (6 + ic)).trans (h.mc.n ic hc)
  have ha1 : (ia : Int) < 4 := by omega
  have hb1 : (ib : Int) < 4 := by omega
  have hc1 : (ic : Int) < 4 := by omega
  have f0 := h.blk.frozen (6 + ia)
  have dd := (h.blk.cell (6 + ia)).trans (h.mc.n ia ha)
  have hv0 := words_gt (ib : Int) hw.numsN
  have hv1 := words_gt (ic : Int) hw.numsN
  have HE := Lib.hid (fun ob q v => (h.num hnl ia ha v ob q).pc (at_ + 1) σ.outs)
  generalize gt σ.nums (ib : Int) = v0 at *
  generalize gt σ.nums (ic : Int) = v1 at *
  clear h hw hx p1 p2 p3 hst hrs htd
  go_enter Tryz.func37, Tryz.ntmps37
  go_wp2
  go_region
  go_wp2
  go_ret3
  exact ⟨rfl, HE.out _ 1 _⟩

set_option maxRecDepth 100000 in
set_option maxHeartbeats 4000000 in
theorem do_4 {w : World} {o : Nat → Tag} {B P : Nat} {σ : St} {most : Int} (h : RMo w o B P σ most) (N : Nat) (hw : Well N σ) (x : Ins) (n : Nat) (hx : x.ok n = true) (e : x.op = 4) (at_ : Nat) (hat : at_ ≤ 100000) :
    Calls Tryz.prog 37 #[.pointer (some ⟨P, 0, none⟩), .agg #[.int .i64 x.op, .int .i64 x.a, .int .i64 x.b, .int .i64 x.c], .int .i64 (at_ : Int)] w fun en w' => DoPost w o B P most x at_ σ en w' := by
  obtain ⟨A, c, D, d, xs, u0, u1, cs, h⟩ := h
  obtain ⟨p1, p2, p3⟩ := okp hx
  have z0 := h.blk.lt
  have z1 : P < w.heap.size + 1 := by omega
  have hrl := hw.refs
  have hnl := hw.nums
  have hst := step_4 { σ with pc := at_ + 1 } e
  have hrs : rstep x { σ with pc := at_ + 1 } = Mo.step x { σ with pc := at_ + 1 } := if_neg (by rw [e]; decide)
  have htd : told x σ = -1 := if_neg (by rw [e]; decide)
  rw [e] at p1 p2 p3
  obtain ⟨ia, ea, ha⟩ := reg_of (by decide) p1
  obtain ⟨ib, eb, hb⟩ := reg_of (by decide) p2
  obtain ⟨ic, ec, hc⟩ := reg_of (by decide) p3
  unfold DoPost
  rw [hrs, htd, hst]
  dsimp only
  obtain ⟨op, xa, xb, xc⟩ := x
  simp only at e ea eb ec
  subst e ea eb ec
  have d0 := (h.blk.cell (6 + ib)).trans (h.mc.n ib hb)
  have d1 := (h.blk.cell (6 + ic)).trans (h.mc.n ic hc)
  have ha1 : (ia : Int) < 4 := by omega
  have hb1 : (ib : Int) < 4 := by omega
  have hc1 : (ic : Int) < 4 := by omega
  have f0 := h.blk.frozen (6 + ia)
  have dd := (h.blk.cell (6 + ia)).trans (h.mc.n ia ha)
  have hv0 := words_gt (ib : Int) hw.numsN
  have hv1 := words_gt (ic : Int) hw.numsN
  have HE := Lib.hid (fun ob q v => (h.num hnl ia ha v ob q).pc (at_ + 1) σ.outs)
  generalize gt σ.nums (ib : Int) = v0 at *
  generalize gt σ.nums (ic : Int) = v1 at *
  have hm0 : 0 ≤ v0 * v1 := Int.mul_nonneg hv0.1 hv1.1
  have hm1 : v0 * v1 ≤ 18446744065119617025 := Int.le_trans (Int.mul_le_mul (Int.le_sub_one_of_lt hv0.2) (Int.le_sub_one_of_lt hv1.2) hv1.1 (by omega)) (by omega)
  have hm2 : IntKind.u64.wrap (v0 * v1) = v0 * v1 := IntWalk.u64_in _ (by omega)
  clear h hw hx p1 p2 p3 hst hrs htd
  go_enter Tryz.func37, Tryz.ntmps37
  go_wp2
  go_region
  go_wp2
  go_ret3
  exact ⟨rfl, HE.out _ 1 _⟩

set_option maxRecDepth 100000 in
set_option maxHeartbeats 4000000 in
theorem do_5 {w : World} {o : Nat → Tag} {B P : Nat} {σ : St} {most : Int} (h : RMo w o B P σ most) (N : Nat) (hw : Well N σ) (x : Ins) (n : Nat) (hx : x.ok n = true) (e : x.op = 5) (at_ : Nat) (hat : at_ ≤ 100000) :
    Calls Tryz.prog 37 #[.pointer (some ⟨P, 0, none⟩), .agg #[.int .i64 x.op, .int .i64 x.a, .int .i64 x.b, .int .i64 x.c], .int .i64 (at_ : Int)] w fun en w' => DoPost w o B P most x at_ σ en w' := by
  obtain ⟨A, c, D, d, xs, u0, u1, cs, h⟩ := h
  obtain ⟨p1, p2, p3⟩ := okp hx
  have z0 := h.blk.lt
  have z1 : P < w.heap.size + 1 := by omega
  have hrl := hw.refs
  have hnl := hw.nums
  have hst := step_5 { σ with pc := at_ + 1 } e
  have hrs : rstep x { σ with pc := at_ + 1 } = Mo.step x { σ with pc := at_ + 1 } := if_neg (by rw [e]; decide)
  have htd : told x σ = -1 := if_neg (by rw [e]; decide)
  rw [e] at p1 p2 p3
  obtain ea : x.a = 0 := by simpa [num, shp] using p1
  obtain ⟨ib, eb, hb⟩ := free_of p2
  obtain ⟨ic, ec, hc⟩ := free_of p3
  unfold DoPost
  rw [hrs, htd, hst]
  dsimp only
  obtain ⟨op, xa, xb, xc⟩ := x
  simp only at e ea eb ec
  subst e ea eb ec
  have HE := Lib.hid (fun ob q k l => (h.same ob q).pc k l)
  have hmx : (((ib : Int) + 256 * (ic : Int)).toNat : Int) = (ib : Int) + 256 * (ic : Int) := Int.toNat_of_nonneg (by omega)
  rw [hmx]
  generalize ((ib : Int) + 256 * (ic : Int)).toNat = kpc
  clear h hw hx p1 p2 p3 hst hrs htd
  go_enter Tryz.func37, Tryz.ntmps37
  go_wp2
  go_ret3
  exact ⟨rfl, HE.out _ 0 _ _⟩

set_option maxRecDepth 100000 in
set_option maxHeartbeats 4000000 in
theorem do_6 {w : World} {o : Nat → Tag} {B P : Nat} {σ : St} {most : Int} (h : RMo w o B P σ most) (N : Nat) (hw : Well N σ) (x : Ins) (n : Nat) (hx : x.ok n = true) (e : x.op = 6) (at_ : Nat) (hat : at_ ≤ 100000) :
    Calls Tryz.prog 37 #[.pointer (some ⟨P, 0, none⟩), .agg #[.int .i64 x.op, .int .i64 x.a, .int .i64 x.b, .int .i64 x.c], .int .i64 (at_ : Int)] w fun en w' => DoPost w o B P most x at_ σ en w' := by
  obtain ⟨A, c, D, d, xs, u0, u1, cs, h⟩ := h
  obtain ⟨p1, p2, p3⟩ := okp hx
  have z0 := h.blk.lt
  have z1 : P < w.heap.size + 1 := by omega
  have hrl := hw.refs
  have hnl := hw.nums
  have hst := step_6 { σ with pc := at_ + 1 } e
  have hrs : rstep x { σ with pc := at_ + 1 } = Mo.step x { σ with pc := at_ + 1 } := if_neg (by rw [e]; decide)
  have htd : told x σ = -1 := if_neg (by rw [e]; decide)
  rw [e] at p1 p2 p3
  obtain ⟨ia, ea, ha⟩ := reg_of (by decide) p1
  obtain ⟨ib, eb, hb⟩ := free_of p2
  obtain ⟨ic, ec, hc⟩ := free_of p3
  unfold DoPost
  rw [hrs, htd, hst]
  dsimp only
  obtain ⟨op, xa, xb, xc⟩ := x
  simp only at e ea eb ec
  subst e ea eb ec
  have d0 := (h.blk.cell (6 + ia)).trans (h.mc.n ia ha)
  have ha1 : (ia : Int) < 4 := by omega
  have hv0 := words_gt (ia : Int) hw.numsN
  have HE := Lib.hid (fun ob q k l => (h.same ob q).pc k l)
  generalize gt σ.nums (ia : Int) = v0 at *
  clear h hw hx p1 p2 p3 hst hrs htd
  by_cases h0 : v0 = 0
  · subst h0
    simp only [if_true]
    have hmx : (((ib : Int) + 256 * (ic : Int)).toNat : Int) = (ib : Int) + 256 * (ic : Int) := Int.toNat_of_nonneg (by omega)
    rw [hmx]
    generalize ((ib : Int) + 256 * (ic : Int)).toNat = kpc
    go_enter Tryz.func37, Tryz.ntmps37
    go_wp2
    go_region
    go_wp2
    go_ret3
    exact ⟨rfl, HE.out _ 1 _ _⟩
  · have hb0 : (v0 == 0) = false := beq_eq_false_iff_ne.mpr h0
    rw [if_neg h0]
    clear h0
    go_enter Tryz.func37, Tryz.ntmps37
    go_wp2
    go_region
    go_wp2
    go_ret3
    exact ⟨rfl, HE.out _ 1 _ _⟩

set_option maxRecDepth 100000 in
set_option maxHeartbeats 4000000 in
theorem do_16 {w : World} {o : Nat → Tag} {B P : Nat} {σ : St} {most : Int} (h : RMo w o B P σ most) (N : Nat) (hw : Well N σ) (x : Ins) (n : Nat) (hx : x.ok n = true) (e : x.op = 16) (at_ : Nat) (hat : at_ ≤ 100000) :
    Calls Tryz.prog 37 #[.pointer (some ⟨P, 0, none⟩), .agg #[.int .i64 x.op, .int .i64 x.a, .int .i64 x.b, .int .i64 x.c], .int .i64 (at_ : Int)] w fun en w' => DoPost w o B P most x at_ σ en w' := by
  obtain ⟨A, c, D, d, xs, u0, u1, cs, h⟩ := h
  obtain ⟨p1, p2, p3⟩ := okp hx
  have z0 := h.blk.lt
  have z1 : P < w.heap.size + 1 := by omega
  have hrl := hw.refs
  have hnl := hw.nums
  have hst := step_16 { σ with pc := at_ + 1 } e
  have hrs : rstep x { σ with pc := at_ + 1 } = Mo.step x { σ with pc := at_ + 1 } := if_neg (by rw [e]; decide)
  have htd : told x σ = gt σ.nums x.a := if_pos e
  rw [e] at p1 p2 p3
  obtain ⟨ia, ea, ha⟩ := reg_of (by decide) p1
  obtain eb : x.b = 0 := by simpa [num, shp] using p2
  obtain ec : x.c = 0 := by simpa [num, shp] using p3
  unfold DoPost
  rw [hrs, htd, hst]
  dsimp only
  obtain ⟨op, xa, xb, xc⟩ := x
  simp only at e ea eb ec
  subst e ea eb ec
  have d0 := (h.blk.cell (6 + ia)).trans (h.mc.n ia ha)
  have ha1 : (ia : Int) < 4 := by omega
  have hv0 := words_gt (ia : Int) hw.numsN
  have HE := Lib.hid (fun ob q k l => (h.same ob q).pc k l)
  generalize gt σ.nums (ia : Int) = v0 at *
  have hτ : (if σ.outs.length < 1000 then (⟨σ.now, σ.last, σ.refs, σ.nums, at_ + 1, σ.outs ++ [v0]⟩ : St) else ⟨σ.now, σ.last, σ.refs, σ.nums, at_ + 1, σ.outs⟩) = ⟨σ.now, σ.last, σ.refs, σ.nums, at_ + 1, if σ.outs.length < 1000 then σ.outs ++ [v0] else σ.outs⟩ := by split <;> rfl
  rw [hτ]
  generalize (if σ.outs.length < 1000 then σ.outs ++ [v0] else σ.outs) = lo
  clear h hw hx p1 p2 p3 hst hrs htd
  go_enter Tryz.func37, Tryz.ntmps37
  go_wp2
  go_region
  go_wp2
  go_ret3
  exact ⟨rfl, HE.out _ 1 _ _⟩

set_option maxRecDepth 100000 in
set_option maxHeartbeats 4000000 in
theorem do_17 {w : World} {o : Nat → Tag} {B P : Nat} {σ : St} {most : Int} (h : RMo w o B P σ most) (N : Nat) (hw : Well N σ) (x : Ins) (n : Nat) (hx : x.ok n = true) (e : x.op = 17) (at_ : Nat) (hat : at_ ≤ 100000) :
    Calls Tryz.prog 37 #[.pointer (some ⟨P, 0, none⟩), .agg #[.int .i64 x.op, .int .i64 x.a, .int .i64 x.b, .int .i64 x.c], .int .i64 (at_ : Int)] w fun en w' => DoPost w o B P most x at_ σ en w' := by
  obtain ⟨A, c, D, d, xs, u0, u1, cs, h⟩ := h
  obtain ⟨p1, p2, p3⟩ := okp hx
  have z0 := h.blk.lt
  have z1 : P < w.heap.size + 1 := by omega
  have hrl := hw.refs
  have hnl := hw.nums
  have hst := step_17 { σ with pc := at_ + 1 } e
  have hrs : rstep x { σ with pc := at_ + 1 } = Mo.step x { σ with pc := at_ + 1 } := if_neg (by rw [e]; decide)
  have htd : told x σ = -1 := if_neg (by rw [e]; decide)
  rw [e] at p1 p2 p3
  obtain ⟨ia, ea, ha⟩ := reg_of (by decide) p1
  obtain ⟨ib, eb, hb⟩ := reg_of (by decide) p2
  obtain ec : x.c = 0 := by simpa [num, shp] using p3
  unfold DoPost
  rw [hrs, htd, hst]
  dsimp only
  obtain ⟨op, xa, xb, xc⟩ := x
  simp only at e ea eb ec
  subst e ea eb ec
  have d0 := (h.blk.cell (2 + ib)).trans (h.mc.a ib hb)
  have ha1 : (ia : Int) < 4 := by omega
  have hb1 : (ib : Int) < 4 := by omega
  have f0 := h.blk.frozen (6 + ia)
  have dd := (h.blk.cell (6 + ia)).trans (h.mc.n ia ha)
  have HE := Lib.hid (fun ob q v => (h.num hnl ia ha v ob q).pc (at_ + 1) σ.outs)
  generalize gt σ.refs (ib : Int) = v0 at *
  rw [show decide (v0 = 0) = (v0 == 0) from rfl]
  clear h hw hx p1 p2 p3 hst hrs htd
  have KF := Lib.hid (fun (W : World) (b : Bool) => rflag_any b W)
  go_enter Tryz.func37, Tryz.ntmps37
  go_wp2_with fail
  refine wp_region_still_tail 15 (by kernel_rfl) (by kernel_rfl) ?_
  change wpStill _ _ (World.drew _) _ _ _
  simp only [List.take_succ_cons, List.take_zero, List.drop_succ_cons, List.drop_zero]
  repeat still_step
  still_call (KF.out _ _)
  repeat still_step
  refine wpStill_nil ?_
  change wpList _ _ _ _ _ (World.drew _)
  go_wp2_with fail
  go_ret3
  exact ⟨rfl, HE.out _ 1 _⟩

set_option maxRecDepth 100000 in
set_option maxHeartbeats 4000000 in
theorem do_18 {w : World} {o : Nat → Tag} {B P : Nat} {σ : St} {most : Int} (h : RMo w o B P σ most) (N : Nat) (hw : Well N σ) (x : Ins) (n : Nat) (hx : x.ok n = true) (e : x.op = 18) (at_ : Nat) (hat : at_ ≤ 100000) :
    Calls Tryz.prog 37 #[.pointer (some ⟨P, 0, none⟩), .agg #[.int .i64 x.op, .int .i64 x.a, .int .i64 x.b, .int .i64 x.c], .int .i64 (at_ : Int)] w fun en w' => DoPost w o B P most x at_ σ en w' := by
  obtain ⟨A, c, D, d, xs, u0, u1, cs, h⟩ := h
  obtain ⟨p1, p2, p3⟩ := okp hx
  have z0 := h.blk.lt
  have z1 : P < w.heap.size + 1 := by omega
  have hrl := hw.refs
  have hnl := hw.nums
  have hst := step_18 { σ with pc := at_ + 1 } e
  have hrs : rstep x { σ with pc := at_ + 1 } = Mo.step x { σ with pc := at_ + 1 } := if_neg (by rw [e]; decide)
  have htd : told x σ = -1 := if_neg (by rw [e]; decide)
  rw [e] at p1 p2 p3
  obtain ⟨ia, ea, ha⟩ := reg_of (by decide) p1
  obtain ⟨ib, eb, hb⟩ := reg_of (by decide) p2
  obtain ⟨ic, ec, hc⟩ := reg_of (by decide) p3
  unfold DoPost
  rw [hrs, htd, hst]
  dsimp only
  obtain ⟨op, xa, xb, xc⟩ := x
  simp only at e ea eb ec
  subst e ea eb ec
  have d0 := (h.blk.cell (2 + ib)).trans (h.mc.a ib hb)
  have d1 := (h.blk.cell (2 + ic)).trans (h.mc.a ic hc)
  have ha1 : (ia : Int) < 4 := by omega
  have hb1 : (ib : Int) < 4 := by omega
  have hc1 : (ic : Int) < 4 := by omega
  have f0 := h.blk.frozen (6 + ia)
  have dd := (h.blk.cell (6 + ia)).trans (h.mc.n ia ha)
  have HE := Lib.hid (fun ob q v => (h.num hnl ia ha v ob q).pc (at_ + 1) σ.outs)
  generalize gt σ.refs (ib : Int) = v0 at *
  generalize gt σ.refs (ic : Int) = v1 at *
  rw [show decide (v0 = v1) = (v0 == v1) from rfl]
  clear h hw hx p1 p2 p3 hst hrs htd
  have KF := Lib.hid (fun (W : World) (b : Bool) => rflag_any b W)
  go_enter Tryz.func37, Tryz.ntmps37
  go_wp2_with fail
  refine wp_region_still_tail 22 (by kernel_rfl) (by kernel_rfl) ?_
  change wpStill _ _ (World.drew _) _ _ _
  simp only [List.take_succ_cons, List.take_zero, List.drop_succ_cons, List.drop_zero]
  repeat still_step
  still_call (KF.out _ _)
  repeat still_step
  refine wpStill_nil ?_
  change wpList _ _ _ _ _ (World.drew _)
  go_wp2_with fail
  go_ret3
  exact ⟨rfl, HE.out _ 1 _⟩

set_option maxRecDepth 100000 in
set_option maxHeartbeats 4000000 in
theorem do_19 {w : World} {o : Nat → Tag} {B P : Nat} {σ : St} {most : Int} (h : RMo w o B P σ most) (N : Nat) (hw : Well N σ) (x : Ins) (n : Nat) (hx : x.ok n = true) (e : x.op = 19) (at_ : Nat) (hat : at_ ≤ 100000) :
    Calls Tryz.prog 37 #[.pointer (some ⟨P, 0, none⟩), .agg #[.int .i64 x.op, .int .i64 x.a, .int .i64 x.b, .int .i64 x.c], .int .i64 (at_ : Int)] w fun en w' => DoPost w o B P most x at_ σ en w' := by
  obtain ⟨A, c, D, d, xs, u0, u1, cs, h⟩ := h
  obtain ⟨p1, p2, p3⟩ := okp hx
  have z0 := h.blk.lt
  have z1 : P < w.heap.size + 1 := by omega
  have hrl := hw.refs
  have hnl := hw.nums
  have hst := step_19 { σ with pc := at_ + 1 } e
  have hrs : rstep x { σ with pc := at_ + 1 } = Mo.step x { σ with pc := at_ + 1 } := if_neg (by rw [e]; decide)
  have htd : told x σ = -1 := if_neg (by rw [e]; decide)
  rw [e] at p1 p2 p3
  obtain ⟨ia, ea, ha⟩ := reg_of (by decide) p1
  obtain eb : x.b = 0 := by simpa [num, shp] using p2
  obtain ec : x.c = 0 := by simpa [num, shp] using p3
  unfold DoPost
  rw [hrs, htd, hst]
  dsimp only
  obtain ⟨op, xa, xb, xc⟩ := x
  simp only at e ea eb ec
  subst e ea eb ec
  have ha1 : (ia : Int) < 4 := by omega
  have f0 := h.blk.frozen (2 + ia)
  have dd := (h.blk.cell (2 + ia)).trans (h.mc.a ia ha)
  have HE := Lib.hid (fun ob q v => (h.ref hrl ia ha v ob q).pc (at_ + 1) σ.outs)
  clear h hw hx p1 p2 p3 hst hrs htd
  go_enter Tryz.func37, Tryz.ntmps37
  go_wp2
  go_region
  go_wp2
  go_ret3
  exact ⟨rfl, HE.out _ 1 _⟩

set_option maxRecDepth 100000 in
set_option maxHeartbeats 4000000 in
theorem do_20 {w : World} {o : Nat → Tag} {B P : Nat} {σ : St} {most : Int} (h : RMo w o B P σ most) (N : Nat) (hw : Well N σ) (x : Ins) (n : Nat) (hx : x.ok n = true) (e : x.op = 20) (at_ : Nat) (hat : at_ ≤ 100000) :
    Calls Tryz.prog 37 #[.pointer (some ⟨P, 0, none⟩), .agg #[.int .i64 x.op, .int .i64 x.a, .int .i64 x.b, .int .i64 x.c], .int .i64 (at_ : Int)] w fun en w' => DoPost w o B P most x at_ σ en w' := by
  obtain ⟨A, c, D, d, xs, u0, u1, cs, h⟩ := h
  obtain ⟨p1, p2, p3⟩ := okp hx
  have z0 := h.blk.lt
  have z1 : P < w.heap.size + 1 := by omega
  have hrl := hw.refs
  have hnl := hw.nums
  have hst := step_20 { σ with pc := at_ + 1 } e
  have hrs : rstep x { σ with pc := at_ + 1 } = Mo.step x { σ with pc := at_ + 1 } := if_neg (by rw [e]; decide)
  have htd : told x σ = -1 := if_neg (by rw [e]; decide)
  rw [e] at p1 p2 p3
  obtain ⟨ia, ea, ha⟩ := reg_of (by decide) p1
  obtain ⟨ib, eb, hb⟩ := reg_of (by decide) p2
  obtain ec : x.c = 0 := by simpa [num, shp] using p3
  unfold DoPost
  rw [hrs, htd, hst]
  dsimp only
  obtain ⟨op, xa, xb, xc⟩ := x
  simp only at e ea eb ec
  subst e ea eb ec
  have d0 := (h.blk.cell (2 + ib)).trans (h.mc.a ib hb)
  have ha1 : (ia : Int) < 4 := by omega
  have hb1 : (ib : Int) < 4 := by omega
  have f0 := h.blk.frozen (2 + ia)
  have dd := (h.blk.cell (2 + ia)).trans (h.mc.a ia ha)
  have HE := Lib.hid (fun ob q v => (h.ref hrl ia ha v ob q).pc (at_ + 1) σ.outs)
  generalize gt σ.refs (ib : Int) = v0 at *
  clear h hw hx p1 p2 p3 hst hrs htd
  go_enter Tryz.func37, Tryz.ntmps37
  go_wp2
  go_region
  go_wp2
  go_ret3
  exact ⟨rfl, HE.out _ 1 _⟩

end Go.Proofs.YteminkohgagedaaGreat.Rf
