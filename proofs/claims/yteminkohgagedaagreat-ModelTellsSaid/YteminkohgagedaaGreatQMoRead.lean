/- A program that runs reads from the heap, or makes an object. -/
import Derived.Test.YteminkohgagedaaGreatQMoRun
import Derived.Handy
namespace Go.Proofs.YteminkohgagedaaGreat.Mo
open Go.RowKit Go.Proofs.YteminkohgagedaaGreat.Base Go.Proofs.YteminkohgagedaaGreat.Gr Go.Proofs.YteminkohgagedaaGreat.Ver
set_option linter.unusedVariables false
set_option linter.unusedSimpArgs false

/-- Tags of blocks that are there alone. -/
def norm (n : Nat) (o : Nat → Tag) : Nat → Tag := fun k => if k < n then o k else .other
theorem norm_lt {n : Nat} {o : Nat → Tag} {k : Nat} (h : k < n) : norm n o k = o k := if_pos h
theorem norm_ge {n : Nat} {o : Nat → Tag} {k : Nat} (h : n ≤ k) : norm n o k = .other := if_neg (by omega)
section
variable {w w' w1 : World} {o o' : Nat → Tag} {B hp rp rb nb : Nat} {AO : Option Addr} {cO : Nat} {σ σ' : St}
theorem RM.tags (h : RM w o B hp rp rb nb AO cO σ) (he : ∀ k, k < w.heap.size → o' k = o k) : RM w o' B hp rp rb nb AO cO σ := by
  have hm : HM w o' B hp σ.now σ.last := h.heap.keep (Mod.refl (fun _ => False) w) (fun _ _ h => h.elim) he (fun k hk hk' _ => by omega)
  have := h.turn (o' := o') ⟨Mod.refl _ _, he⟩ hm
  exact this
theorem RM.norm (h : RM w o B hp rp rb nb AO cO σ) : RM w (norm w.heap.size o) B hp rp rb nb AO cO σ := h.tags (fun k hk => norm_lt hk)
theorem After.of_norm (h : After w (norm w.heap.size o) B hp rp rb nb AO σ' w') : After w o B hp rp rb nb AO σ' w' := by
  obtain ⟨o', AO', cO', h1, h2⟩ := h
  refine ⟨o', AO', cO', h1, ⟨⟨h2.mod.os, h2.mod.tape, h2.mod.output, h2.mod.size, fun k hk hn => h2.mod.block k hk (fun e => hn ?_)⟩, fun k hk => (h2.ext k hk).trans (norm_lt hk), h2.out⟩⟩
  rcases e with e | e
  · rw [norm_lt hk] at e; exact .inl e
  · exact .inr e
/-- Behind a method of the heap, with a box of one's own. -/
theorem RM.call (h : RM w o B hp rp rb nb AO cO σ) (ho : ∀ k, w.heap.size ≤ k → o k = .other) (cs : Array Value) (t : TypeId) {now last : Gr} (ht : Turn (w.alloc (.cells cs t)).drew w' o o') (h2 : HM w' o' B hp now last) :
    RM w' o' B hp rp rb nb AO cO { σ with now := now, last := last } ∧ RTurn w w' o o' rp rb nb AO AO ∧ Blk w' w.heap.size t cs := by
  have hb := below_drewN (below_1 w (.cells cs t)) 1
  refine ⟨(h.below hb).turn ht h2, ⟨Mod.trans (Mod.of_below hb) (ht.mod.mono (fun _ _ e => .inl e)) (fun _ _ e => e), fun k hk => ht.ext k (by simp; omega), fun _ _ e => e⟩, ?_⟩
  exact Base.Blk.mod ((Blk.new w t cs).drewN 1) ht.mod (fun e => e (ho _ (Nat.le_refl _)))
end
theorem ins_cells {w : World} {z : Nat} {t : TypeId} {a b c d : Int} (h : Blk w z t #[.int .i64 a, .int .i64 b, .int .i64 c, .int .i64 d]) : w.cell? ⟨z, 0, none⟩ = some (.int .i64 a) ∧ w.cell? ⟨z, 1, none⟩ = some (.int .i64 b) ∧ w.cell? ⟨z, 2, none⟩ = some (.int .i64 c) ∧ w.cell? ⟨z, 3, none⟩ = some (.int .i64 d) := by
  have c0 := h.cell 0
  have c1 := h.cell 1
  have c2 := h.cell 2
  have c3 := h.cell 3
  simp only [List.getElem?_toArray, List.getElem?_cons_zero, List.getElem?_cons_succ] at c0 c1 c2 c3
  exact ⟨c0, c1, c2, c3⟩

/-- All that a walk wants behind such a call. -/
structure Called (w w2 : World) (o : Nat → Tag) (B hp rp rb nb : Nat) (AO : Option Addr) (cO : Nat) (σ' : St) (x : Ins) : Prop where
  out : ∃ o', RM w2 o' B hp rp rb nb AO cO σ' ∧ RTurn w w2 o o' rp rb nb AO AO ∧ Blk w2 w.heap.size 58 #[.int .i64 x.op, .int .i64 x.a, .int .i64 x.b, .int .i64 x.c]
theorem called_cells {w w2 : World} {o : Nat → Tag} {B hp rp rb nb : Nat} {AO : Option Addr} {cO : Nat} {σ' : St} {x : Ins} (h : Called w w2 o B hp rp rb nb AO cO σ' x) (hl : σ'.refs.length = 4) (hl2 : σ'.nums.length = 4) :
    (w2.cell? ⟨rp, 0, none⟩ = some (.iface 64 (.pointer (some ⟨hp, 0, none⟩))) ∧ w2.cell? ⟨rp, 1, none⟩ = some (.slice (some ⟨rb, 0, none⟩) 4 4) ∧ w2.cell? ⟨rp, 2, none⟩ = some (.slice (some ⟨nb, 0, none⟩) 4 4)) ∧
    (w2.cell? ⟨w.heap.size, 0, none⟩ = some (.int .i64 x.op) ∧ w2.cell? ⟨w.heap.size, 1, none⟩ = some (.int .i64 x.a) ∧ w2.cell? ⟨w.heap.size, 2, none⟩ = some (.int .i64 x.b) ∧ w2.cell? ⟨w.heap.size, 3, none⟩ = some (.int .i64 x.c)) ∧
    (∀ i : Nat, i < 4 → w2.cell? ⟨rb, i, none⟩ = some (.int .i64 (gt σ'.refs (i : Int)))) ∧ (∀ i : Nat, i < 4 → w2.cell? ⟨nb, i, none⟩ = some (.int .i64 (gt σ'.nums (i : Int)))) ∧
    (∀ i, w2.frozen? ⟨rb, i, none⟩ = false) ∧ (∀ i, w2.frozen? ⟨nb, i, none⟩ = false) ∧ (rp < w2.heap.size ∧ rb < w2.heap.size ∧ nb < w2.heap.size) := by
  obtain ⟨o', h1, h2, h3⟩ := h.out
  obtain ⟨c0, c1, c2, _, _⟩ := h1.cells
  exact ⟨⟨c0, c1, c2⟩, ins_cells h3, fun i hi => h1.refAt hl i hi, fun i hi => h1.numAt hl2 i hi, h1.refs.frozen, h1.nums.frozen, h1.blk.lt, h1.refs.lt, h1.nums.lt⟩
theorem called_ref {w w2 : World} {o : Nat → Tag} {B hp rp rb nb : Nat} {AO : Option Addr} {cO : Nat} {σ' : St} {x : Ins} (h : Called w w2 o B hp rp rb nb AO cO σ' x) (i : Nat) (v : Int) : After w o B hp rp rb nb AO { σ' with refs := pu σ'.refs i v } (w2.setCell ⟨rb, i, none⟩ (.int .i64 v)) := by
  obtain ⟨o', h1, h2, h3⟩ := h.out
  exact ⟨o', AO, cO, h1.ref i v, h2.trans (rturn_cell (Below.refl _ _) hot_rb _ _)⟩
theorem called_num {w w2 : World} {o : Nat → Tag} {B hp rp rb nb : Nat} {AO : Option Addr} {cO : Nat} {σ' : St} {x : Ins} (h : Called w w2 o B hp rp rb nb AO cO σ' x) (i : Nat) (v : Int) : After w o B hp rp rb nb AO { σ' with nums := pu σ'.nums i v } (w2.setCell ⟨nb, i, none⟩ (.int .i64 v)) := by
  obtain ⟨o', h1, h2, h3⟩ := h.out
  exact ⟨o', AO, cO, h1.num i v, h2.trans (rturn_cell (Below.refl _ _) hot_nb _ _)⟩
theorem called_same {w w2 : World} {o : Nat → Tag} {B hp rp rb nb : Nat} {AO : Option Addr} {cO : Nat} {σ' : St} {x : Ins} (h : Called w w2 o B hp rp rb nb AO cO σ' x) : After w o B hp rp rb nb AO σ' w2 := by
  obtain ⟨o', h1, h2, h3⟩ := h.out
  exact ⟨o', AO, cO, h1, h2⟩

set_option maxRecDepth 100000 in
set_option maxHeartbeats 4000000 in
theorem read_any {w : World} {o : Nat → Tag} {B hp rp rb nb : Nat} {AO : Option Addr} {cO : Nat} {σ : St} (h : RM w o B hp rp rb nb AO cO σ) (N : Nat) (hN : N ≤ 100000) (hw : Well N σ) (x : Ins) (n : Nat) (hx : x.ok n = true) (hop : x.op = 7 ∨ x.op = 8 ∨ x.op = 10 ∨ x.op = 12 ∨ x.op = 21 ∨ x.op = 22) :
    Calls Tryz.prog 103 #[.pointer (some ⟨rp, 0, none⟩), .agg #[.int .i64 x.op, .int .i64 x.a, .int .i64 x.b, .int .i64 x.c]] w fun e w' => e = .returned (.int .i64 (step x σ).1) ∧ After w o B hp rp rb nb AO (step x σ).2 w' := by
  suffices hh : Calls Tryz.prog 103 #[.pointer (some ⟨rp, 0, none⟩), .agg #[.int .i64 x.op, .int .i64 x.a, .int .i64 x.b, .int .i64 x.c]] w fun e w' => e = .returned (.int .i64 (step x σ).1) ∧ After w (norm w.heap.size o) B hp rp rb nb AO (step x σ).2 w' from
    hh.mono fun e w' hp => ⟨hp.1, hp.2.of_norm⟩
  replace h := h.norm
  have ho : ∀ k, w.heap.size ≤ k → norm w.heap.size o k = .other := fun k hk => norm_ge hk
  generalize norm w.heap.size o = o at h ho ⊢
  obtain ⟨p1, p2, p3⟩ := ok_parts hx
  obtain ⟨c0, c1, c2, c3, c4⟩ := h.cells
  have hn4 := hw.nums
  have hr4 := hw.refs
  have zr := h.blk.lt
  have zn := h.nums.lt
  have zf := h.refs.lt
  have zr1 : rp < w.heap.size + 1 := by omega
  have zn1 : nb < w.heap.size + 1 := by omega
  have zf1 : rb < w.heap.size + 1 := by omega
  have hfit := hw.now.fits hN
  have hrng := fun i => named_gt i hw.refsN (by omega)
  have hb1 := fun ob : Obj => below_drewN (below_1 w ob) 1
  rcases hop with e | e | e | e | e | e
  · have hst := step_7 σ e
    rw [e] at p1 p2 p3
    obtain ⟨ia, ea, ha⟩ := num_reg (by decide) p1
    obtain ⟨ib, eb, hb⟩ := num_free p2
    obtain ⟨ic', ec, hc⟩ := num_free p3
    have hok : x.b ≤ 15 ∧ x.c ≤ 30 := by
      simp only [Ins.ok, one, Bool.and_eq_true, decide_eq_true_eq] at hx
      exact hx.1.2 e
    rw [hst]
    obtain ⟨op, a, b, c⟩ := x
    simp only at e ea eb ec hok
    subst e ea eb ec
    have ha' : (ia : Int) < 4 := by omega
    have K := (alloc_any (h.heap.below (hb1 (.cells #[.int .i64 7, .int .i64 (ia : Int), .int .i64 (ib : Int), .int .i64 (ic' : Int)] 58))) hfit ib ic' (by omega) (by omega)).mono (fun e w2 pst => (show e = _ ∧ Called w w2 o B hp rp rb nb AO cO { σ with now := mkN σ.now ib ic' } ⟨7, ia, ib, ic'⟩ from by
      obtain ⟨o', q1, q2, q3⟩ := pst
      exact ⟨q1, ⟨o', h.call ho _ _ q3 q2⟩⟩))
    clear h hw hx p1 p2 p3 hst hb1 hrng hfit ho c3 c4
    · dsimp only
      generalize hg1 : (σ.now.nodes.length : Int) + 1 = g1 at K ⊢
      have HK := Lib.hid K
      clear K hg1
      go_enter Tryz.func103, Tryz.ntmps103
      go_wp2_with fail
      go_region_held3 (fun W => W.cell? ⟨rp, 0, none⟩ = some (.iface 64 (.pointer (some ⟨hp, 0, none⟩))) ∧ W.cell? ⟨w.heap.size, 2, none⟩ = some (.int .i64 (ib : Int)) ∧ W.cell? ⟨w.heap.size, 3, none⟩ = some (.int .i64 (ic' : Int)))
        (first
          | exact ⟨hcs.1.1, hcs.2.1.2.2.1, hcs.2.1.2.2.2⟩
          | go_keep)
        ((go_at_call 129; refine HK.out.mono ?_; rintro e w2 ⟨rfl, hC⟩; have hcs := called_cells hC hr4 hn4))
      have HC := Lib.hid hC
      have m1 := hcs.1.2.1
      have m2 := hcs.1.2.2
      have m3 := hcs.2.1.2.1
      have m4 := hcs.2.2.1 ia ha
      have m5 := hcs.2.2.2.2.1 ia
      have m6 := hcs.2.2.2.2.2.2
      clear hcs hC
      go_wp2_with fail
      go_ret
      exact ⟨rfl, called_ref HC.out ia g1⟩
  · have hst := step_8 σ e
    rw [e] at p1 p2 p3
    obtain ⟨ia, ea, ha⟩ := num_reg (by decide) p1
    obtain ⟨ib, eb, hb⟩ := num_reg (by decide) p2
    obtain ⟨ic', ec, hc⟩ := num_free p3
    rw [hst]
    obtain ⟨op, a, b, c⟩ := x
    simp only at e ea eb ec
    subst e ea eb ec
    have d1 := h.refAt hr4 ib hb
    have ha' : (ia : Int) < 4 := by omega
    have hb' : (ib : Int) < 4 := by omega
    have hrv := hrng (ib : Int)
    have hv1e : gt σ.refs (ib : Int) = gt σ.refs (ib : Int) := rfl
    generalize hv1 : gt σ.refs (ib : Int) = v1 at hv1e hrv d1 ⊢
    have K := (load_any (h.heap.below (hb1 (.cells #[.int .i64 8, .int .i64 (ia : Int), .int .i64 (ib : Int), .int .i64 (ic' : Int)] 58))) hfit.nodes hfit.small v1 (ic' : Int) hrv.1 hrv.2 (by omega)).mono (fun e w2 pst => (show e = _ ∧ Called w w2 o B hp rp rb nb AO cO σ ⟨8, ia, ib, ic'⟩ from ⟨pst.1, ⟨o, h.call ho _ _ pst.2.2 pst.2.1⟩⟩))
    have HV1 := Lib.hid hv1
    have x0 := c0
    clear h hw hx p1 p2 p3 hst hb1 hrng hfit ho hv1 hv1e c3 c4
    cases hE : decide (atE v1 ic' (nd σ.now v1).slots = 0)
    · have hE' : ¬ atE v1 ic' (nd σ.now v1).slots = 0 := of_decide_eq_false hE
      rw [if_neg hE']
      generalize getV v1 ic' (nd σ.now v1).slots = g1 at K
      generalize atE v1 ic' (nd σ.now v1).slots = g2 at K hE' ⊢
      have hb2 : (g2 == 0) = false := beq_eq_false_iff_ne.mpr hE'
      have HK := Lib.hid K
      clear hE hE' hrv K
      go_enter Tryz.func103, Tryz.ntmps103
      go_wp2_with fail
      go_region_held3 (fun W => W.cell? ⟨rp, 0, none⟩ = some (.iface 64 (.pointer (some ⟨hp, 0, none⟩))) ∧ W.cell? ⟨rp, 1, none⟩ = some (.slice (some ⟨rb, 0, none⟩) 4 4) ∧ W.cell? ⟨w.heap.size, 2, none⟩ = some (.int .i64 (ib : Int)) ∧ W.cell? ⟨w.heap.size, 3, none⟩ = some (.int .i64 (ic' : Int)) ∧ W.cell? ⟨rb, ib, none⟩ = some (.int .i64 v1))
        (first
          | exact ⟨hcs.1.1, hcs.1.2.1, hcs.2.1.2.2.1, hcs.2.1.2.2.2, by rw [← HV1.out]; exact hcs.2.2.1 ib hb⟩
          | go_keep)
        ((go_at_call 131; refine HK.out.mono ?_; rintro e w2 ⟨rfl, hC⟩; have hcs := called_cells hC hr4 hn4))
      have HC := Lib.hid hC
      have m1 := hcs.1.2.1
      have m2 := hcs.1.2.2
      have m3 := hcs.2.1.2.1
      have m4 := hcs.2.2.1 ia ha
      have m5 := hcs.2.2.2.2.1 ia
      have m6 := hcs.2.2.2.2.2.2
      clear hcs hC
      go_wp2_with fail
      go_ret
      exact ⟨rfl, called_same HC.out⟩
    · have hE' : atE v1 ic' (nd σ.now v1).slots = 0 := of_decide_eq_true hE
      have HV : getV v1 ic' (nd σ.now v1).slots = gt (nd σ.now v1).slots ic' := by rw [getV, if_pos hE']
      rw [if_pos hE']
      rw [hE', HV] at K
      generalize hg1 : gt (nd σ.now v1).slots (ic' : Int) = g1 at K ⊢
      have HK := Lib.hid K
      clear HV hE hE' hrv K
      go_enter Tryz.func103, Tryz.ntmps103
      go_wp2_with fail
      go_region_held3 (fun W => W.cell? ⟨rp, 0, none⟩ = some (.iface 64 (.pointer (some ⟨hp, 0, none⟩))) ∧ W.cell? ⟨rp, 1, none⟩ = some (.slice (some ⟨rb, 0, none⟩) 4 4) ∧ W.cell? ⟨w.heap.size, 2, none⟩ = some (.int .i64 (ib : Int)) ∧ W.cell? ⟨w.heap.size, 3, none⟩ = some (.int .i64 (ic' : Int)) ∧ W.cell? ⟨rb, ib, none⟩ = some (.int .i64 v1))
        (first
          | exact ⟨hcs.1.1, hcs.1.2.1, hcs.2.1.2.2.1, hcs.2.1.2.2.2, by rw [← HV1.out]; exact hcs.2.2.1 ib hb⟩
          | go_keep)
        ((go_at_call 131; refine HK.out.mono ?_; rintro e w2 ⟨rfl, hC⟩; have hcs := called_cells hC hr4 hn4))
      have HC := Lib.hid hC
      have m1 := hcs.1.2.1
      have m2 := hcs.1.2.2
      have m3 := hcs.2.1.2.1
      have m4 := hcs.2.2.1 ia ha
      have m5 := hcs.2.2.2.2.1 ia
      have m6 := hcs.2.2.2.2.2.2
      clear hcs hC
      go_wp2_with fail
      go_ret
      exact ⟨rfl, called_ref HC.out ia g1⟩
  · have hst := step_10 σ e
    rw [e] at p1 p2 p3
    obtain ⟨ia, ea, ha⟩ := num_reg (by decide) p1
    obtain ⟨ib, eb, hb⟩ := num_reg (by decide) p2
    obtain ⟨ic', ec, hc⟩ := num_free p3
    rw [hst]
    obtain ⟨op, a, b, c⟩ := x
    simp only at e ea eb ec
    subst e ea eb ec
    have d1 := h.refAt hr4 ib hb
    have ha' : (ia : Int) < 4 := by omega
    have hb' : (ib : Int) < 4 := by omega
    have hrv := hrng (ib : Int)
    have hv1e : gt σ.refs (ib : Int) = gt σ.refs (ib : Int) := rfl
    generalize hv1 : gt σ.refs (ib : Int) = v1 at hv1e hrv d1 ⊢
    have K := (word_any (h.heap.below (hb1 (.cells #[.int .i64 10, .int .i64 (ia : Int), .int .i64 (ib : Int), .int .i64 (ic' : Int)] 58))) hfit.nodes hfit.small v1 (ic' : Int) hrv.1 hrv.2 (by omega)).mono (fun e w2 pst => (show e = _ ∧ Called w w2 o B hp rp rb nb AO cO σ ⟨10, ia, ib, ic'⟩ from ⟨pst.1, ⟨o, h.call ho _ _ pst.2.2 pst.2.1⟩⟩))
    have HV1 := Lib.hid hv1
    have x0 := c0
    clear h hw hx p1 p2 p3 hst hb1 hrng hfit ho hv1 hv1e c3 c4
    cases hE : decide (atE v1 ic' (nd σ.now v1).words = 0)
    · have hE' : ¬ atE v1 ic' (nd σ.now v1).words = 0 := of_decide_eq_false hE
      rw [if_neg hE']
      generalize getV v1 ic' (nd σ.now v1).words = g1 at K
      generalize atE v1 ic' (nd σ.now v1).words = g2 at K hE' ⊢
      have hb2 : (g2 == 0) = false := beq_eq_false_iff_ne.mpr hE'
      have HK := Lib.hid K
      clear hE hE' hrv K
      go_enter Tryz.func103, Tryz.ntmps103
      go_wp2_with fail
      go_region_held3 (fun W => W.cell? ⟨rp, 0, none⟩ = some (.iface 64 (.pointer (some ⟨hp, 0, none⟩))) ∧ W.cell? ⟨rp, 1, none⟩ = some (.slice (some ⟨rb, 0, none⟩) 4 4) ∧ W.cell? ⟨w.heap.size, 2, none⟩ = some (.int .i64 (ib : Int)) ∧ W.cell? ⟨w.heap.size, 3, none⟩ = some (.int .i64 (ic' : Int)) ∧ W.cell? ⟨rb, ib, none⟩ = some (.int .i64 v1))
        (first
          | exact ⟨hcs.1.1, hcs.1.2.1, hcs.2.1.2.2.1, hcs.2.1.2.2.2, by rw [← HV1.out]; exact hcs.2.2.1 ib hb⟩
          | go_keep)
        ((go_at_call 137; refine HK.out.mono ?_; rintro e w2 ⟨rfl, hC⟩; have hcs := called_cells hC hr4 hn4))
      have HC := Lib.hid hC
      have m1 := hcs.1.2.1
      have m2 := hcs.1.2.2
      have m3 := hcs.2.1.2.1
      have m4 := hcs.2.2.2.1 ia ha
      have m5 := hcs.2.2.2.2.2.1 ia
      have m6 := hcs.2.2.2.2.2.2
      clear hcs hC
      go_wp2_with fail
      go_ret
      exact ⟨rfl, called_same HC.out⟩
    · have hE' : atE v1 ic' (nd σ.now v1).words = 0 := of_decide_eq_true hE
      have HV : getV v1 ic' (nd σ.now v1).words = gt (nd σ.now v1).words ic' := by rw [getV, if_pos hE']
      rw [if_pos hE']
      rw [hE', HV] at K
      generalize hg1 : gt (nd σ.now v1).words (ic' : Int) = g1 at K ⊢
      have HK := Lib.hid K
      clear HV hE hE' hrv K
      go_enter Tryz.func103, Tryz.ntmps103
      go_wp2_with fail
      go_region_held3 (fun W => W.cell? ⟨rp, 0, none⟩ = some (.iface 64 (.pointer (some ⟨hp, 0, none⟩))) ∧ W.cell? ⟨rp, 1, none⟩ = some (.slice (some ⟨rb, 0, none⟩) 4 4) ∧ W.cell? ⟨w.heap.size, 2, none⟩ = some (.int .i64 (ib : Int)) ∧ W.cell? ⟨w.heap.size, 3, none⟩ = some (.int .i64 (ic' : Int)) ∧ W.cell? ⟨rb, ib, none⟩ = some (.int .i64 v1))
        (first
          | exact ⟨hcs.1.1, hcs.1.2.1, hcs.2.1.2.2.1, hcs.2.1.2.2.2, by rw [← HV1.out]; exact hcs.2.2.1 ib hb⟩
          | go_keep)
        ((go_at_call 137; refine HK.out.mono ?_; rintro e w2 ⟨rfl, hC⟩; have hcs := called_cells hC hr4 hn4))
      have HC := Lib.hid hC
      have m1 := hcs.1.2.1
      have m2 := hcs.1.2.2
      have m3 := hcs.2.1.2.1
      have m4 := hcs.2.2.2.1 ia ha
      have m5 := hcs.2.2.2.2.2.1 ia
      have m6 := hcs.2.2.2.2.2.2
      clear hcs hC
      go_wp2_with fail
      go_ret
      exact ⟨rfl, called_num HC.out ia g1⟩
  · have hst := step_12 σ e
    rw [e] at p1 p2 p3
    obtain ⟨ia, ea, ha⟩ := num_reg (by decide) p1
    obtain ⟨ib, eb, hb⟩ := num_root (by decide) p2
    obtain ⟨ic', ec, hc⟩ := num_free p3
    rw [hst]
    obtain ⟨op, a, b, c⟩ := x
    simp only at e ea eb ec
    subst e ea eb ec
    have ha' : (ia : Int) < 4 := by omega
    have hb' : (ib : Int) < 8 := by omega
    have K := (root_any (h.heap.below (hb1 (.cells #[.int .i64 12, .int .i64 (ia : Int), .int .i64 (ib : Int), .int .i64 (ic' : Int)] 58))) hfit (ib : Int) (by omega) hb').mono (fun e w2 pst => (show e = _ ∧ Called w w2 o B hp rp rb nb AO cO σ ⟨12, ia, ib, ic'⟩ from ⟨pst.1, ⟨o, h.call ho _ _ pst.2.2 pst.2.1⟩⟩))
    clear h hw hx p1 p2 p3 hst hb1 hrng hfit ho c3 c4
    · dsimp only
      generalize hg1 : gt σ.now.roots (ib : Int) = g1 at K ⊢
      have HK := Lib.hid K
      clear K
      go_enter Tryz.func103, Tryz.ntmps103
      go_wp2_with fail
      go_region_held3 (fun W => W.cell? ⟨rp, 0, none⟩ = some (.iface 64 (.pointer (some ⟨hp, 0, none⟩))) ∧ W.cell? ⟨w.heap.size, 2, none⟩ = some (.int .i64 (ib : Int)))
        (first
          | exact ⟨hcs.1.1, hcs.2.1.2.2.1⟩
          | go_keep)
        ((go_at_call 133; refine HK.out.mono ?_; rintro e w2 ⟨rfl, hC⟩; have hcs := called_cells hC hr4 hn4))
      have HC := Lib.hid hC
      have m1 := hcs.1.2.1
      have m2 := hcs.1.2.2
      have m3 := hcs.2.1.2.1
      have m4 := hcs.2.2.1 ia ha
      have m5 := hcs.2.2.2.2.1 ia
      have m6 := hcs.2.2.2.2.2.2
      clear hcs hC
      go_wp2_with fail
      go_ret
      exact ⟨rfl, called_ref HC.out ia g1⟩
  · have hst := step_21 σ e
    rw [e] at p1 p2 p3
    obtain ⟨ia, ea, ha⟩ := num_reg (by decide) p1
    obtain ⟨ib, eb, hb⟩ := num_reg (by decide) p2
    obtain ⟨ic', ec, hc⟩ := num_free p3
    rw [hst]
    obtain ⟨op, a, b, c⟩ := x
    simp only at e ea eb ec
    subst e ea eb ec
    have ha' : (ia : Int) < 4 := by omega
    have d1 := h.refAt hr4 ib hb
    have hb' : (ib : Int) < 4 := by omega
    have hrv := hrng (ib : Int)
    generalize hv1 : gt σ.refs (ib : Int) = v1 at hrv d1 ⊢
    have K := (shape_any (h.heap.below (hb1 (.cells #[.int .i64 21, .int .i64 (ia : Int), .int .i64 (ib : Int), .int .i64 (ic' : Int)] 58))) hfit v1 hrv.1 hrv.2).mono (fun e w2 pst => (show e = _ ∧ Called w w2 o B hp rp rb nb AO cO σ ⟨21, ia, ib, ic'⟩ from ⟨pst.1, ⟨o, h.call ho _ _ pst.2.2 pst.2.1⟩⟩))
    have HV1 := Lib.hid hv1
    clear h hw hx p1 p2 p3 hst hb1 hrng hfit ho hv1 c3 c4
    generalize ((nd σ.now v1).slots.length : Int) = n1 at K ⊢
    generalize ((nd σ.now v1).words.length : Int) = n2 at K ⊢
    cases hE : decide (v1 = 0)
    · have hE' : ¬ v1 = 0 := of_decide_eq_false hE
      rw [if_neg hE', if_neg hE', if_neg hE'] at K
      rw [if_neg hE']
      have HK := Lib.hid K
      clear hE hE' hrv K
      go_enter Tryz.func103, Tryz.ntmps103
      go_wp2_with fail
      go_region_held3 (fun W => W.cell? ⟨rp, 0, none⟩ = some (.iface 64 (.pointer (some ⟨hp, 0, none⟩))) ∧ W.cell? ⟨rp, 1, none⟩ = some (.slice (some ⟨rb, 0, none⟩) 4 4) ∧ W.cell? ⟨w.heap.size, 2, none⟩ = some (.int .i64 (ib : Int)) ∧ W.cell? ⟨rb, ib, none⟩ = some (.int .i64 v1))
        (first
          | exact ⟨hcs.1.1, hcs.1.2.1, hcs.2.1.2.2.1, by rw [← HV1.out]; exact hcs.2.2.1 ib hb⟩
          | go_keep)
        ((go_at_call 136; refine HK.out.mono ?_; rintro e w2 ⟨rfl, hC⟩; have hcs := called_cells hC hr4 hn4))
      have HC := Lib.hid hC
      have m1 := hcs.1.2.1
      have m2 := hcs.1.2.2
      have m3 := hcs.2.1.2.1
      have m4 := hcs.2.2.2.1 ia ha
      have m5 := hcs.2.2.2.2.2.1 ia
      have m6 := hcs.2.2.2.2.2.2
      clear hcs hC
      go_wp2_with fail
      go_ret
      exact ⟨rfl, called_num HC.out ia n1⟩
    · have hE' : v1 = 0 := of_decide_eq_true hE
      rw [if_pos hE', if_pos hE', if_pos hE'] at K
      rw [if_pos hE']
      have HK := Lib.hid K
      clear hE hE' hrv K
      go_enter Tryz.func103, Tryz.ntmps103
      go_wp2_with fail
      go_region_held3 (fun W => W.cell? ⟨rp, 0, none⟩ = some (.iface 64 (.pointer (some ⟨hp, 0, none⟩))) ∧ W.cell? ⟨rp, 1, none⟩ = some (.slice (some ⟨rb, 0, none⟩) 4 4) ∧ W.cell? ⟨w.heap.size, 2, none⟩ = some (.int .i64 (ib : Int)) ∧ W.cell? ⟨rb, ib, none⟩ = some (.int .i64 v1))
        (first
          | exact ⟨hcs.1.1, hcs.1.2.1, hcs.2.1.2.2.1, by rw [← HV1.out]; exact hcs.2.2.1 ib hb⟩
          | go_keep)
        ((go_at_call 136; refine HK.out.mono ?_; rintro e w2 ⟨rfl, hC⟩; have hcs := called_cells hC hr4 hn4))
      have HC := Lib.hid hC
      have m1 := hcs.1.2.1
      have m2 := hcs.1.2.2
      have m3 := hcs.2.1.2.1
      have m4 := hcs.2.2.2.1 ia ha
      have m5 := hcs.2.2.2.2.2.1 ia
      have m6 := hcs.2.2.2.2.2.2
      clear hcs hC
      go_wp2_with fail
      go_ret
      exact ⟨rfl, called_same HC.out⟩
  · have hst := step_22 σ e
    rw [e] at p1 p2 p3
    obtain ⟨ia, ea, ha⟩ := num_reg (by decide) p1
    obtain ⟨ib, eb, hb⟩ := num_reg (by decide) p2
    obtain ⟨ic', ec, hc⟩ := num_free p3
    rw [hst]
    obtain ⟨op, a, b, c⟩ := x
    simp only at e ea eb ec
    subst e ea eb ec
    have ha' : (ia : Int) < 4 := by omega
    have d1 := h.refAt hr4 ib hb
    have hb' : (ib : Int) < 4 := by omega
    have hrv := hrng (ib : Int)
    generalize hv1 : gt σ.refs (ib : Int) = v1 at hrv d1 ⊢
    have K := (shape_any (h.heap.below (hb1 (.cells #[.int .i64 22, .int .i64 (ia : Int), .int .i64 (ib : Int), .int .i64 (ic' : Int)] 58))) hfit v1 hrv.1 hrv.2).mono (fun e w2 pst => (show e = _ ∧ Called w w2 o B hp rp rb nb AO cO σ ⟨22, ia, ib, ic'⟩ from ⟨pst.1, ⟨o, h.call ho _ _ pst.2.2 pst.2.1⟩⟩))
    have HV1 := Lib.hid hv1
    clear h hw hx p1 p2 p3 hst hb1 hrng hfit ho hv1 c3 c4
    generalize ((nd σ.now v1).slots.length : Int) = n1 at K ⊢
    generalize ((nd σ.now v1).words.length : Int) = n2 at K ⊢
    cases hE : decide (v1 = 0)
    · have hE' : ¬ v1 = 0 := of_decide_eq_false hE
      rw [if_neg hE', if_neg hE', if_neg hE'] at K
      rw [if_neg hE']
      have HK := Lib.hid K
      clear hE hE' hrv K
      go_enter Tryz.func103, Tryz.ntmps103
      go_wp2_with fail
      go_region_held3 (fun W => W.cell? ⟨rp, 0, none⟩ = some (.iface 64 (.pointer (some ⟨hp, 0, none⟩))) ∧ W.cell? ⟨rp, 1, none⟩ = some (.slice (some ⟨rb, 0, none⟩) 4 4) ∧ W.cell? ⟨w.heap.size, 2, none⟩ = some (.int .i64 (ib : Int)) ∧ W.cell? ⟨rb, ib, none⟩ = some (.int .i64 v1))
        (first
          | exact ⟨hcs.1.1, hcs.1.2.1, hcs.2.1.2.2.1, by rw [← HV1.out]; exact hcs.2.2.1 ib hb⟩
          | go_keep)
        ((go_at_call 136; refine HK.out.mono ?_; rintro e w2 ⟨rfl, hC⟩; have hcs := called_cells hC hr4 hn4))
      have HC := Lib.hid hC
      have m1 := hcs.1.2.1
      have m2 := hcs.1.2.2
      have m3 := hcs.2.1.2.1
      have m4 := hcs.2.2.2.1 ia ha
      have m5 := hcs.2.2.2.2.2.1 ia
      have m6 := hcs.2.2.2.2.2.2
      clear hcs hC
      go_wp2_with fail
      go_ret
      exact ⟨rfl, called_num HC.out ia n2⟩
    · have hE' : v1 = 0 := of_decide_eq_true hE
      rw [if_pos hE', if_pos hE', if_pos hE'] at K
      rw [if_pos hE']
      have HK := Lib.hid K
      clear hE hE' hrv K
      go_enter Tryz.func103, Tryz.ntmps103
      go_wp2_with fail
      go_region_held3 (fun W => W.cell? ⟨rp, 0, none⟩ = some (.iface 64 (.pointer (some ⟨hp, 0, none⟩))) ∧ W.cell? ⟨rp, 1, none⟩ = some (.slice (some ⟨rb, 0, none⟩) 4 4) ∧ W.cell? ⟨w.heap.size, 2, none⟩ = some (.int .i64 (ib : Int)) ∧ W.cell? ⟨rb, ib, none⟩ = some (.int .i64 v1))
        (first
          | exact ⟨hcs.1.1, hcs.1.2.1, hcs.2.1.2.2.1, by rw [← HV1.out]; exact hcs.2.2.1 ib hb⟩
          | go_keep)
        ((go_at_call 136; refine HK.out.mono ?_; rintro e w2 ⟨rfl, hC⟩; have hcs := called_cells hC hr4 hn4))
      have HC := Lib.hid hC
      have m1 := hcs.1.2.1
      have m2 := hcs.1.2.2
      have m3 := hcs.2.1.2.1
      have m4 := hcs.2.2.2.1 ia ha
      have m5 := hcs.2.2.2.2.2.1 ia
      have m6 := hcs.2.2.2.2.2.2
      clear hcs hC
      go_wp2_with fail
      go_ret
      exact ⟨rfl, called_same HC.out⟩

end Go.Proofs.YteminkohgagedaaGreat.Mo
