/- The reference's machine: Alloc. -/
import Derived.Test.YteminkohgagedaaGreatQRfDo2
import Derived.Test.YteminkohgagedaaGreatQRfDo
import Derived.Test.YteminkohgagedaaGreatQGrRefCanonW
import Derived.Test.YteminkohgagedaaGreatQMoAlloc
import Derived.Test.YteminkohgagedaaGreatQBase
import Derived.Deep.RegionHeld3
namespace Go.Proofs.YteminkohgagedaaGreat.Rf
open Go.RowKit Go.Proofs.YteminkohgagedaaGreat.Base Go.Proofs.YteminkohgagedaaGreat.Gr Go.Proofs.YteminkohgagedaaGreat.Ver Go.Proofs.YteminkohgagedaaGreat.Mo
set_option linter.unusedVariables false
set_option linter.unusedSimpArgs false

section
variable {cs : Array Value} {v0 v1 u0 u1 : Value} {refs nums : List Int} {most : Int}
theorem MC.last (h : MC cs v0 v1 u0 u1 refs nums most) (a b : Value) : MC ((cs.setIfInBounds 10 a).setIfInBounds 11 b) v0 v1 a b refs nums most := by
  have hs := h.size
  refine ⟨by simp [hs], ?_, ?_, fun j hj => ?_, fun j hj => ?_, ?_, ?_, ?_⟩
  · rw [Array.getElem?_setIfInBounds_ne (by omega), Array.getElem?_setIfInBounds_ne (by omega)]; exact h.c0
  · rw [Array.getElem?_setIfInBounds_ne (by omega), Array.getElem?_setIfInBounds_ne (by omega)]; exact h.c1
  · rw [Array.getElem?_setIfInBounds_ne (by omega), Array.getElem?_setIfInBounds_ne (by omega)]; exact h.a j hj
  · rw [Array.getElem?_setIfInBounds_ne (by omega), Array.getElem?_setIfInBounds_ne (by omega)]; exact h.n j hj
  · rw [Array.getElem?_setIfInBounds_ne (by omega), Array.getElem?_setIfInBounds_self_of_lt (by omega)]
  · rw [Array.getElem?_setIfInBounds_self_of_lt (by simp; omega)]
  · rw [Array.getElem?_setIfInBounds_ne (by omega), Array.getElem?_setIfInBounds_ne (by omega)]; exact h.c12
theorem MC.graph (h : MC cs v0 v1 u0 u1 refs nums most) (a b : Value) : MC ((cs.setIfInBounds 0 a).setIfInBounds 1 b) a b u0 u1 refs nums most := by
  have hs := h.size
  refine ⟨by simp [hs], ?_, ?_, fun j hj => ?_, fun j hj => ?_, ?_, ?_, ?_⟩
  · rw [Array.getElem?_setIfInBounds_ne (by omega), Array.getElem?_setIfInBounds_self_of_lt (by omega)]
  · rw [Array.getElem?_setIfInBounds_self_of_lt (by simp; omega)]
  · rw [Array.getElem?_setIfInBounds_ne (by omega), Array.getElem?_setIfInBounds_ne (by omega)]; exact h.a j hj
  · rw [Array.getElem?_setIfInBounds_ne (by omega), Array.getElem?_setIfInBounds_ne (by omega)]; exact h.n j hj
  · rw [Array.getElem?_setIfInBounds_ne (by omega), Array.getElem?_setIfInBounds_ne (by omega)]; exact h.c10
  · rw [Array.getElem?_setIfInBounds_ne (by omega), Array.getElem?_setIfInBounds_ne (by omega)]; exact h.c11
  · rw [Array.getElem?_setIfInBounds_ne (by omega), Array.getElem?_setIfInBounds_ne (by omega)]; exact h.c12
theorem MC.row (h : MC cs v0 v1 u0 u1 refs nums most) (b : Value) : MC (cs.setIfInBounds 1 b) v0 b u0 u1 refs nums most := by
  have hs := h.size
  refine ⟨by simp [hs], ?_, ?_, fun j hj => ?_, fun j hj => ?_, ?_, ?_, ?_⟩
  · rw [Array.getElem?_setIfInBounds_ne (by omega)]; exact h.c0
  · rw [Array.getElem?_setIfInBounds_self_of_lt (by omega)]
  · rw [Array.getElem?_setIfInBounds_ne (by omega)]; exact h.a j hj
  · rw [Array.getElem?_setIfInBounds_ne (by omega)]; exact h.n j hj
  · rw [Array.getElem?_setIfInBounds_ne (by omega)]; exact h.c10
  · rw [Array.getElem?_setIfInBounds_ne (by omega)]; exact h.c11
  · rw [Array.getElem?_setIfInBounds_ne (by omega)]; exact h.c12
theorem MC.top (h : MC cs v0 v1 u0 u1 refs nums most) (m : Int) : MC (cs.setIfInBounds 12 (.int .i64 m)) v0 v1 u0 u1 refs nums m := by
  have hs := h.size
  refine ⟨by simp [hs], ?_, ?_, fun j hj => ?_, fun j hj => ?_, ?_, ?_, ?_⟩
  · rw [Array.getElem?_setIfInBounds_ne (by omega)]; exact h.c0
  · rw [Array.getElem?_setIfInBounds_ne (by omega)]; exact h.c1
  · rw [Array.getElem?_setIfInBounds_ne (by omega)]; exact h.a j hj
  · rw [Array.getElem?_setIfInBounds_ne (by omega)]; exact h.n j hj
  · rw [Array.getElem?_setIfInBounds_ne (by omega)]; exact h.c10
  · rw [Array.getElem?_setIfInBounds_ne (by omega)]; exact h.c11
  · rw [Array.getElem?_setIfInBounds_self_of_lt (by omega)]
end
section
variable {w w1 w' : World} {o o' : Nat → Tag} {B P : Nat} {A D : Option Addr} {c d : Nat} {xs : List Value} {u0 u1 : Value} {cs : Array Value} {σ : St} {most : Int}
/-- The tags of blocks that are not there yet are taken away. -/
def cut (n : Nat) (o : Nat → Tag) : Nat → Tag := join n o (fun _ => .other)
theorem cut_lt {n k : Nat} (h : k < n) : cut n o k = o k := join_lt h
theorem cut_new {n k : Nat} (h : n ≤ k) : cut n o k = .other := if_neg (by omega)
theorem RMc.commit (h : RMc w o B P A c D d xs u0 u1 cs σ most) (hb : Below w.heap.size w w1) (a b : Value) (g : Gr) (hF : Firm w.heap.size w1 (.agg #[a, b]) g) :
    RDone w o B P most { σ with last := g } ((w1.setCell ⟨P, 10, none⟩ a).setCell ⟨P, 11, none⟩ b) := by
  have hlt := h.blk.lt
  have hm : Mod (fun k => k = P) w1 ((w1.setCell ⟨P, 10, none⟩ a).setCell ⟨P, 11, none⟩ b) := mod_set' (S := fun k => k = P) (mod_set' (S := fun k => k = P) (Mod.refl _ _) rfl _) rfl _
  have hPo : ∀ k, k = P → cut w.heap.size o k = .heap := fun k e => by rw [e, cut_lt hlt]; exact h.oP
  refine ⟨cut w.heap.size o, ⟨A, c, D, d, xs, a, b, (cs.setIfInBounds 10 a).setIfInBounds 11 b, ?_, ?_, h.mc.last a b, hPo _ rfl, fun k hk => ?_, ?_⟩, ⟨?_, fun k hk => cut_lt hk⟩⟩
  · exact (h.g.mod (Mod.of_below (S := fun _ => False) hb) (fun _ _ h => h.elim) (fun k hk => cut_lt hk)).mod hm (fun k _ e => by rw [hPo k e]; exact fun h => by cases h) (fun _ _ => rfl)
  · exact ((h.blk.below hb hlt).set_ 10 a).set_ 11 b
  · rcases Nat.lt_or_ge k w.heap.size with h1 | h1
    · rw [cut_lt h1] at hk; exact h.lo k hk
    · exact absurd (cut_new h1) hk
  · intro w' hm'
    exact hF.mod hm (by rintro k rfl; exact hlt) _ _ hm' (fun k hk => by
      rcases Nat.lt_or_ge k w.heap.size with h1 | h1
      · exact h1
      · have hBP := h.lo P (by rw [h.oP]; exact fun h => by cases h)
        exact hk.elim (fun hk => absurd (cut_new h1) hk) (fun hk => by omega))
  · exact Mod.trans (Mod.of_below (S := fun k => o k ≠ .other ∧ (o k).side ≠ some true) hb) hm (fun k _ e => by rw [e, h.oP]; simp [Tag.side])
end

set_option maxRecDepth 100000 in
set_option maxHeartbeats 4000000 in
theorem do_14 {w : World} {o : Nat → Tag} {B P : Nat} {σ : St} {most : Int} (h : RMo w o B P σ most) (N : Nat) (hN : N ≤ 100000) (hw : Well N σ) (x : Ins) (n : Nat) (hx : x.ok n = true) (e : x.op = 14) (at_ : Nat) (hat : at_ ≤ 100000) :
    Calls Tryz.prog 37 #[.pointer (some ⟨P, 0, none⟩), .agg #[.int .i64 x.op, .int .i64 x.a, .int .i64 x.b, .int .i64 x.c], .int .i64 (at_ : Int)] w fun en w' => DoPost w o B P most x at_ σ en w' := by
  obtain ⟨A, c, D, d, xs, u0, u1, cs, h⟩ := h
  have z0 := h.blk.lt
  have z1 : P < w.heap.size + 1 := by omega
  have hrs : rstep x { σ with pc := at_ + 1 } = (0, { ({ σ with pc := at_ + 1 } : St) with last := number σ.now }) := if_pos e
  have htd : told x σ = -1 := if_neg (by rw [e]; decide)
  unfold DoPost
  rw [hrs, htd]
  dsimp only
  obtain ⟨op, xa, xb, xc⟩ := x
  simp only at e
  subst e
  have c0 := (h.blk.cell 0).trans h.mc.c0
  have c1 := (h.blk.cell 1).trans h.mc.c1
  have hnn : σ.now.nodes.length ≤ 100000 := Nat.le_trans hw.now.size hN
  have hI := h.g.roots.ints (by have := hw.now.roots; omega)
  have hD := h.g.nodes.reads (by omega) (sound_small hw.now)
  have KC := Lib.hid (fun (ob : Obj) => refcanon_firm A D σ.now c d (w.alloc ob) (hI.below (below_1 w ob)) (hD.below (below_1 w ob)) hw.now.named (by have := hw.now.roots; omega) hnn hw.now.nodes)
  have HE := Lib.hid (fun (ob : Obj) (w1 : World) (hb : Below (w.alloc ob).heap.size (w.alloc ob) w1) (a b : Value) (g : Gr) (hF : Firm (w.alloc ob).heap.size w1 (.agg #[a, b]) g) => RDone.of (below_1 w ob) (((h.below (below_1 w ob)).commit hb a b g hF).pc (at_ + 1) σ.outs))
  have HX := Lib.hid (fun (ob : Obj) (w1 : World) (hb : Below (w.alloc ob).heap.size (w.alloc ob) w1) => show (w1.cell? ⟨P, 10, none⟩ = some u0 ∧ w1.cell? ⟨P, 11, none⟩ = some u1) ∧ (w1.frozen? ⟨P, 10, none⟩ = false ∧ w1.frozen? ⟨P, 11, none⟩ = false) ∧ P < w1.heap.size from by
    have hk := (h.below (below_1 w ob)).below hb
    exact ⟨⟨(hk.blk.cell 10).trans hk.mc.c10, (hk.blk.cell 11).trans hk.mc.c11⟩, ⟨hk.blk.frozen 10, hk.blk.frozen 11⟩, hk.blk.lt⟩)
  clear h hw hx hrs htd hI hD
  go_enter Tryz.func37, Tryz.ntmps37
  go_wp2_with fail
  refine (KC.out _).mono ?_
  rintro e w1 ⟨A', c', D', d', rfl, hF, hb⟩
  obtain ⟨⟨t0, t1⟩, ⟨t2, t3⟩, t4⟩ := HX.out _ _ hb
  have HD := Lib.hid (HE.out _ w1 hb _ _ _ hF)
  clear hF hb
  go_wp2_with fail
  go_ret3
  exact ⟨rfl, HD.out⟩
end Go.Proofs.YteminkohgagedaaGreat.Rf
namespace Go.Proofs.YteminkohgagedaaGreat.Base
open Go.RowKit
set_option linter.unusedVariables false
set_option linter.unusedSimpArgs false

section
variable {P : Program} {md : Region.Mode}
/-- The way out of the others: the last one is carried out. -/
def LastQ (P : Program) (ops : Array Oper) (Q : Exit → Act → World → Prop) (n : Nat) : Exit → Act → World → Prop
  | .normal, a, w => wpOp P ops Q n (fun a' w' => Q .normal a' w') a w
  | e, a, w => Q e a w
theorem wp_lastQ {ops : Array Oper} {Q : Exit → Act → World → Prop} {n : Nat} {o : Oper} {a : Act} {w : World} {K K' : Act → World → Prop} (hk : ∀ a w, K a w → K' a w) (h : o.wp P a w K (LastQ P ops Q n)) : o.wp P a w K' Q := by
  unfold Oper.wp at *
  generalize (execOp a.eval o).run P w = r at *
  cases r with
  | ok m w' =>
    cases m <;> simp only [Oper.upon] at h ⊢ <;>
      first
        | exact hk _ _ h
        | exact Calls.mono h (fun e w'' he => by cases e <;> first | exact hk _ _ he | exact he)
        | exact Rows.mono h (fun _ _ he => hk _ _ he)
  | halt x w' => cases x <;> simp only [Oper.upon] at h ⊢ <;> exact h
/-- What is asked of the operations, to be settled by reckoning. -/
def lastB (md : Region.Mode) (pre : Array Oper) (st : Oper) : Bool :=
  (List.range pre.size).all (fun i => (st.after.any fun e => Region.binds md e && e.on == i) || (List.range pre.size).any fun j => decide (i < j) && ((pre[j]?).map fun o => o.after.any fun e => Region.binds md e && e.on == i).getD false) && st.after.all (fun e => !Region.binds md e || decide (e.on < pre.size)) &&
  (List.range pre.size).all (fun j => ((pre[j]?).map fun o => (o.after.all fun e => !Region.binds md e || decide (e.on < j)) && (match o.guard with | none => true | some (g, _) => decide (g < pre.size))).getD true)
structure LastOk (md : Region.Mode) (pre : Array Oper) (st : Oper) : Prop where
  all : ∀ i, i < pre.size → (∃ e ∈ st.after, Region.binds md e = true ∧ e.on = i) ∨ ∃ (j : Nat) (o : Oper), i < j ∧ pre[j]? = some o ∧ ∃ e ∈ o.after, Region.binds md e = true ∧ e.on = i
  lt : ∀ e ∈ st.after, Region.binds md e = true → e.on < pre.size
  dep : ∀ (j : Nat) (o : Oper), pre[j]? = some o → ∀ e ∈ o.after, Region.binds md e = true → e.on < j
  guard : ∀ (j : Nat) (o : Oper), pre[j]? = some o → ∀ g b, o.guard = some (g, b) → g < pre.size
theorem lastB_spec {pre : Array Oper} {st : Oper} (h : lastB md pre st = true) : LastOk md pre st := by
  unfold lastB at h
  simp only [Bool.and_eq_true, List.all_eq_true, List.mem_range, Bool.or_eq_true, List.any_eq_true, Array.any_eq_true', decide_eq_true_eq] at h
  obtain ⟨⟨h1, h2⟩, h3⟩ := h
  refine ⟨fun i hi => ?_, fun e he hb => ?_, fun j o hj e he hb => ?_, fun j o hj g b hg => ?_⟩
  · rcases h1 i hi with ⟨e, he, hx⟩ | ⟨j, hj, hij, hx⟩
    · exact .inl ⟨e, he, hx.1, by simpa using hx.2⟩
    · have ho : pre[j]? = some pre[j] := Array.getElem?_eq_getElem hj
      rw [ho] at hx
      simp only [Option.map_some, Option.getD_some, Array.any_eq_true', Bool.and_eq_true] at hx
      obtain ⟨e, he, h4, h5⟩ := hx
      exact .inr ⟨j, pre[j], hij, ho, e, he, h4, by simpa using h5⟩
  · rw [Array.all_eq_true_iff_forall_mem] at h2
    have := h2 e he
    simpa [hb] using this
  · have hlt : j < pre.size := (Array.getElem?_eq_some_iff.1 hj).1
    have := h3 j hlt
    rw [hj] at this
    simp only [Option.map_some, Option.getD_some, Bool.and_eq_true] at this
    have h4 := this.1
    rw [Array.all_eq_true_iff_forall_mem] at h4
    have := h4 e he
    simpa [hb] using this
  · have hlt : j < pre.size := (Array.getElem?_eq_some_iff.1 hj).1
    have := h3 j hlt
    rw [hj] at this
    simp only [Option.map_some, Option.getD_some, Bool.and_eq_true] at this
    have h4 := this.2
    rw [hg] at h4
    simpa using h4

variable {pre : Array Oper} {st : Oper} {Q : Exit → Act → World → Prop}
theorem push_lt {i : Nat} (h : i < pre.size) : (pre.push st)[i]? = pre[i]? := by
  rw [Array.getElem?_push, if_neg (Nat.ne_of_lt h)]
theorem getD_push_lt {L : Array Bool} {i : Nat} (d : Bool) (h : i < L.size) : (L.push false).getD i d = L.getD i d := by
  simp only [Array.getD_eq_getD_getElem?, Array.getElem?_push, if_neg (Nat.ne_of_lt h)]
theorem yielded_push {tmps : Array Value} {g : Nat} (h : g < pre.size) : yielded (pre.push st) tmps g = yielded pre tmps g := by
  unfold yielded
  rw [push_lt h]
theorem wanted_push (ok : LastOk md pre st) {i : Nat} {o : Oper} {tmps : Array Value} (ho : pre[i]? = some o) : Region.wanted o (yielded (pre.push st) tmps) = Region.wanted o (yielded pre tmps) := by
  unfold Region.wanted
  cases hg : o.guard with
  | none => rfl
  | some p =>
    obtain ⟨g, b⟩ := p
    simp only
    rw [yielded_push (ok.guard i o ho g b hg)]
theorem lets_lastQ {ops : Array Oper} {n : Nat} : LetsOut (LastQ P ops Q n) → LetsOut Q := fun ⟨a, w, h⟩ => ⟨a, w, h⟩
theorem wpOp_last (ok : LastOk md pre st) {ops : Array Oper} {n i : Nat} {a : Act} {w : World} (hi : i < pre.size) {K K' : Act → World → Prop} (hk : ∀ a w, K a w → K' a w)
    (h : wpOp P pre (LastQ P ops Q n) i K a w) : wpOp P (pre.push st) Q i K' a w := by
  have ho : pre[i]? = some pre[i] := Array.getElem?_eq_getElem hi
  unfold wpOp at *
  rw [push_lt hi]
  simp only [ho] at h ⊢
  rw [wanted_push ok ho]
  split at h
  · rename_i hw
    rw [if_pos hw]
    exact h.imp (wp_lastQ hk) (fun h => ⟨h.1, lets_lastQ h.2⟩)
  · rename_i hw
    rw [if_neg hw]
    exact hk _ _ h
theorem getD_lt {L : Array Bool} {i : Nat} (d d' : Bool) (h : i < L.size) : L.getD i d = L.getD i d' := by
  simp only [Array.getD_eq_getD_getElem?, Array.getElem?_eq_getElem h, Option.getD_some]
/-- Whatever is listed has been waited for. -/
def Shutd (md : Region.Mode) (pre : Array Oper) (L : Array Bool) : Prop := ∀ (j : Nat) (o : Oper), pre[j]? = some o → L.getD j false = true → ∀ e ∈ o.after, Region.binds md e = true → L.getD e.on false = true
theorem Shutd.set {L : Array Bool} {i : Nat} (h : Shutd md pre L) (hi : i ∈ Region.ready md pre L) : Shutd md pre (L.setIfInBounds i true) := by
  intro j o ho hj e he hb
  obtain ⟨-, o2, ho2, h2⟩ := mem_ready.1 hi
  by_cases hij : i = j
  · subst hij
    rw [ho] at ho2
    injection ho2 with e1
    subst e1
    exact getD_set_true (h2 e he hb)
  · rw [getD_set_ne false hij] at hj
    exact getD_set_true (h j o ho hj e he hb)
theorem mem_ready_push (ok : LastOk md pre st) {L : Array Bool} (hL : L.size = pre.size) (hC : Shutd md pre L) {i : Nat} :
    i ∈ Region.ready md (pre.push st) (L.push false) ↔ i ∈ Region.ready md pre L ∨ (i = pre.size ∧ ∀ j, j < pre.size → L.getD j false = true) := by
  rw [mem_ready, mem_ready]
  rcases Nat.lt_trichotomy i pre.size with h | h | h
  · rw [push_lt h, getD_push_lt true (by omega)]
    constructor
    · rintro ⟨h1, o, ho, h2⟩
      refine .inl ⟨h1, o, ho, fun e he hb => ?_⟩
      have h3 := h2 e he hb
      rwa [getD_push_lt false (by have := ok.dep i o ho e he hb; omega)] at h3
    · rintro (⟨h1, o, ho, h2⟩ | ⟨h1, -⟩)
      · refine ⟨h1, o, ho, fun e he hb => ?_⟩
        rw [getD_push_lt false (by have := ok.dep i o ho e he hb; omega)]
        exact h2 e he hb
      · omega
  · subst h
    constructor
    · rintro ⟨-, o, ho, h2⟩
      have e1 : o = st := by simpa [Array.getElem?_push] using ho.symm
      subst e1
      refine .inr ⟨rfl, fun j hj => ?_⟩
      have key : ∀ (m j : Nat), j < pre.size → pre.size - j ≤ m → L.getD j false = true := by
        intro m
        induction m with
        | zero => intro j hj hm; omega
        | succ m ih =>
          intro j hj hm
          rcases ok.all j hj with ⟨e, he, hb, rfl⟩ | ⟨k, o2, hjk, hk, e, he, hb, rfl⟩
          · have h3 := h2 e he hb
            rwa [getD_push_lt false (by omega)] at h3
          · have hlt := (Array.getElem?_eq_some_iff.1 hk).1
            exact hC k o2 hk (ih k hlt (by omega)) e he hb
      exact key _ j hj (Nat.le_refl _)
    · rintro (⟨-, o, ho, -⟩ | ⟨-, h2⟩)
      · simp at ho
      · refine ⟨?_, st, by simp, fun e he hb => ?_⟩
        · rw [Array.getD_eq_getD_getElem?, Array.getElem?_push, if_pos hL.symm]
          rfl
        · have := ok.lt e he hb
          rw [getD_push_lt false (by omega)]
          exact h2 _ this
  · constructor
    · rintro ⟨-, o, ho, -⟩
      have := (Array.getElem?_eq_some_iff.1 ho).1
      simp at this
      omega
    · rintro (⟨-, o, ho, -⟩ | ⟨h1, -⟩)
      · have := (Array.getElem?_eq_some_iff.1 ho).1
        omega
      · omega
theorem all_of_ready (ok : LastOk md pre st) {L : Array Bool} (hL : L.size = pre.size) (hr : Region.ready md pre L = []) : ∀ j, j < pre.size → L.getD j false = true := by
  intro j
  induction j using Nat.strongRecOn with
  | ind j ih =>
    intro hj
    rcases hb : L.getD j false with _ | _
    · exfalso
      have hm : j ∈ Region.ready md pre L := by
        rw [mem_ready]
        have ho : pre[j]? = some pre[j] := Array.getElem?_eq_getElem hj
        refine ⟨by rw [getD_lt true false (by omega)]; exact hb, pre[j], ho, fun e he hb => ?_⟩
        have := ok.dep j _ ho e he hb
        exact ih _ this (by omega)
      rw [hr] at hm
      cases hm
    · rfl
theorem set_push {L : Array Bool} {i : Nat} (h : i < L.size) : (L.push false).setIfInBounds i true = (L.setIfInBounds i true).push false := by
  apply Array.ext'
  rw [Array.toList_setIfInBounds, Array.toList_push, Array.toList_push, Array.toList_setIfInBounds, List.set_append_left _ _ (by simpa using h)]
theorem wpAny_last (ok : LastOk md pre st) : ∀ (k : Nat) (L : Array Bool) (a : Act) (w : World), L.size = pre.size → Shutd md pre L →
    wpAny P md pre (LastQ P (pre.push st) Q pre.size) k L a w → wpAny P md (pre.push st) Q (k + 1) (L.push false) a w := by
  intro k
  induction k with
  | zero =>
    intro L a w hL hC h
    exact fin ok 0 L a w hL hC h.1 h.2
  | succ k ih =>
    intro L a w hL hC h
    by_cases hr : Region.ready md pre L = []
    · exact fin ok (k + 1) L a w hL hC hr (h.1 hr)
    · refine ⟨fun h0 => ?_, fun i hi => ?_⟩
      · obtain ⟨x, hx⟩ := List.exists_mem_of_ne_nil _ hr
        have := (mem_ready_push (st := st) ok hL hC).2 (.inl hx)
        rw [h0] at this
        cases this
      · rcases (mem_ready_push ok hL hC).1 hi with h1 | ⟨-, h1⟩
        · have hlt : i < pre.size := by
            obtain ⟨-, o, ho, -⟩ := mem_ready.1 h1
            exact (Array.getElem?_eq_some_iff.1 ho).1
          refine wpOp_last ok hlt (fun a' w' h' => ?_) (h.2 i h1)
          rw [set_push (by omega)]
          exact ih _ a' w' (by simpa using hL) (hC.set h1) h'
        · exfalso
          obtain ⟨x, hx⟩ := List.exists_mem_of_ne_nil _ hr
          obtain ⟨h2, o, ho, -⟩ := mem_ready.1 hx
          have hlt := (Array.getElem?_eq_some_iff.1 ho).1
          rw [getD_lt true false (by omega), h1 x hlt] at h2
          cases h2
  where
  fin (ok : LastOk md pre st) (k : Nat) (L : Array Bool) (a : Act) (w : World) (hL : L.size = pre.size) (hC : Shutd md pre L) (hr : Region.ready md pre L = [])
      (hq : wpOp P (pre.push st) Q pre.size (fun a' w' => Q .normal a' w') a w) : wpAny P md (pre.push st) Q (k + 1) (L.push false) a w := by
    have hall := all_of_ready ok hL hr
    refine ⟨fun h0 => ?_, fun i hi => ?_⟩
    · have := (mem_ready_push (st := st) ok hL hC).2 (.inr ⟨rfl, hall⟩)
      rw [h0] at this
      cases this
    · rcases (mem_ready_push ok hL hC).1 hi with h1 | ⟨h1, -⟩
      · rw [hr] at h1
        cases h1
      · subst h1
        refine wpOp_mono (fun a' w' h' => wpAny_done ?_ h' k) hq
        apply List.eq_nil_iff_forall_not_mem.2
        intro j hj
        obtain ⟨h1, o, ho, -⟩ := mem_ready.1 hj
        have hlt := (Array.getElem?_eq_some_iff.1 ho).1
        simp only [Array.size_push] at hlt
        rcases Nat.lt_or_ge j pre.size with h2 | h2
        · rw [getD_set_ne true (Nat.ne_of_gt h2), getD_push_lt true (by omega), getD_lt true false (by omega), hall j h2] at h1
          cases h1
        · have e : j = pre.size := by omega
          subst e
          simp [Array.getD_eq_getD_getElem?, hL] at h1
/-- The beginning: the last operation is laid by, S is asked of the others alone. -/
theorem wp_region_last {ops : Array Oper} {id : Nat} {a : Act} {w : World} (S : World → Prop) (pre : Array Oper) (st : Oper) (e : ops = pre.push st) (hm : P.follows .mixedOrders = true) (hok : lastB .any pre st = true) (hS : S w.drew)
    (h : S w.drew → wpAnyH P .any pre (LastQ P ops Q pre.size) S pre.size (Array.replicate pre.size false) a w.drew) : (Code.region id ops true).wp P Q a w := by
  subst e
  refine wp_region_any hm ?_
  have h1 := wpAny_last (lastB_spec hok) pre.size (Array.replicate pre.size false) a w.drew (by simp) (fun j o _ hj => by
    rcases Nat.lt_or_ge j pre.size with h0 | h0 <;> simp [Array.getD_eq_getD_getElem?, h0] at hj) (wpAny_of_held _ _ _ _ (h hS))
  have e : (Array.replicate pre.size false).push false = Array.replicate (pre.push st).size false := by
    apply Array.ext
    · simp
    · intro j h1 h2
      simp [Array.getElem_push]
  rw [e] at h1
  simpa using h1
/-- Behind the others: the last operation is handed over. -/
theorem lastQ_step {ops : Array Oper} {n : Nat} {o : Oper} {a : Act} {w : World} (ho : ops[n]? = some o)
    (h : ∀ K : Act → World → Prop, Shut (∀ a w, Q .normal a w → K a w) → if Region.wanted o (yielded ops a.tmps) = true then Oper.wp P o a w K Q else K (a.put o.dst undef) w) : LastQ P ops Q n .normal a w :=
  wpOp_step ho fun K hK => h K hK
/-! The walk's moves over a region that is written out as a list. -/
variable {S : World → Prop} {l : List Oper}
theorem wp_region_lastL {id : Nat} {a : Act} {w : World} (S : World → Prop) (l : List Oper) (st : Oper) (n : Nat) (hn : l.length = n) {ops : Array Oper} (e : ops = (l ++ [st]).toArray) (hm : P.follows .mixedOrders = true) (hok : lastB .any l.toArray st = true) (hS : S w.drew)
    (h : S w.drew → wpAnyH P .any l.toArray (LastQ P ops Q n) S n (Array.replicate n false) a w.drew) : (Code.region id ops true).wp P Q a w := by
  subst hn
  exact wp_region_last S l.toArray st (by rw [e]; simp) hm hok hS (by simpa using h)
theorem takeL (i : Nat) {oi : Oper} {v : Value} {fuel : Nat} {listed : Array Bool} {a : Act} {w : World} (hi : l[i]? = some oi)
    (hs : Region.noSelect l.toArray = true) (hf : Region.free md l.toArray listed i = true) (hr : (Region.ready md l.toArray listed).contains i = true)
    (hQ : ∀ c a w, Q (.panic c) (a.put oi.dst v) w → Q (.panic c) a w) (hw : Region.wanted oi (yielded l.toArray a.tmps) = true) (hy : ∀ w, S w → (execOp a.eval oi).run P w = .ok (.value v) w) (hS : S w)
    (h : wpAnyH P md l.toArray Q S fuel (listed.setIfInBounds i true) (a.put oi.dst v) w) : wpAnyH P md l.toArray Q S (fuel + 1) listed a w :=
  wpAnyH_take (by simpa using hi) hs hf hr hQ (.inl ⟨hw, hy⟩) hS h
theorem consL {fuel : Nat} {listed : Array Bool} {a : Act} {w : World} (i : Nat) {o : Oper} {rs : List Nat} (ho : l[i]? = some o)
    (h : ∀ K' : Act → World → Prop, Shut (∀ a w, S w → (S w → wpAnyH P md l.toArray Q S fuel (listed.setIfInBounds i true) a w) → K' a w) → if Region.wanted o (yielded l.toArray a.tmps) = true then Oper.wp P o a w K' Q else K' (a.put o.dst undef) w)
    (hs : AllReadyH P md l.toArray Q S fuel listed a w rs) : AllReadyH P md l.toArray Q S fuel listed a w (i :: rs) :=
  AllReadyH.cons (by simpa using ho) h hs
theorem lastL {n : Nat} {o : Oper} {a : Act} {w : World} (ho : l[n]? = some o)
    (h : ∀ K : Act → World → Prop, Shut (∀ a w, Q .normal a w → K a w) → if Region.wanted o (yielded l.toArray a.tmps) = true then Oper.wp P o a w K Q else K (a.put o.dst undef) w) : LastQ P l.toArray Q n .normal a w :=
  lastQ_step (by simpa using ho) h
end
end Go.Proofs.YteminkohgagedaaGreat.Base
namespace Go.Proofs.YteminkohgagedaaGreat.Rf
open Go.RowKit Go.Proofs.YteminkohgagedaaGreat.Base Go.Proofs.YteminkohgagedaaGreat.Gr Go.Proofs.YteminkohgagedaaGreat.Ver Go.Proofs.YteminkohgagedaaGreat.Mo
set_option linter.unusedVariables false
set_option linter.unusedSimpArgs false

section
variable {w w1 w' : World} {o o' : Nat → Tag} {B P : Nat} {A D : Option Addr} {c d : Nat} {xs : List Value} {u0 u1 : Value} {cs : Array Value} {σ : St} {most : Int}
theorem RMc.cut (h : RMc w o B P A c D d xs u0 u1 cs σ most) : RMc w (cut w.heap.size o) B P A c D d xs u0 u1 cs σ most := by
  have hlt := h.blk.lt
  refine ⟨h.g.mod (Mod.refl (fun _ => False) w) (fun _ _ h => h.elim) (fun k hk => cut_lt hk), h.blk, h.mc, by rw [cut_lt hlt]; exact h.oP, fun k hk => ?_, h.last.turn ⟨Mod.refl _ _, fun k hk => cut_lt hk⟩⟩
  rcases Nat.lt_or_ge k w.heap.size with h1 | h1
  · rw [cut_lt h1] at hk; exact h.lo k hk
  · exact absurd (cut_new h1) hk
theorem RMc.alloc {W2 W3 w4 : World} {s n pa pb L : Nat} {v4 : Value}
    (h : RMc w o B P A c D d xs u0 u1 cs σ most) (hL : σ.now.nodes.length = L) (hs : s ≤ 1000) (hn : n ≤ 1000) (hb : Below w.heap.size w W2) (ha : Blk W2 pa 3 (List.replicate s (Value.int .i64 0)).toArray) (hbk : Blk W2 pb 3 (List.replicate n (Value.int .i64 0)).toArray)
    (hpa : w.heap.size ≤ pa) (hpb : w.heap.size ≤ pb) (hne : pa ≠ pb) (ob : Obj) (hl : Like (W2.alloc ob) W3) (hg : W3.grownBy w4 (Value.slice D L d).ownBlock)
    (hown : w4.ownsRow 0 55 2 v4 (L + 1) (xs ++ [.slice (some ⟨pa, 0, none⟩) s s, .slice (some ⟨pb, 0, none⟩) n n])) (hat : v4.ownBlock = (Value.slice D L d).ownBlock ∨ v4.ownBlock = some W3.heap.size) :
    RDone w o B P most { σ with now := mkN σ.now s n } (w4.setCell ⟨P, 1, none⟩ v4) ∧ w4.cell? ⟨P, 1, none⟩ = some (.slice D L d) ∧ w4.frozen? ⟨P, 1, none⟩ = false ∧ P < w4.heap.size := by
  subst hL
  obtain ⟨D4, d4, rfl, hd4⟩ := own_form hown
  have hb3 : Below W2.heap.size W2 W3 := by
    have := below_1 W2 ob
    exact ⟨hl.os.trans this.os, hl.tape.trans this.tape, hl.output.trans this.output, by rw [hl.heap]; exact this.size, fun i hi => by rw [hl.heap]; exact this.block i hi⟩
  have hbW : Below w.heap.size w W3 := below_then hb hb3
  have hA3 := own_zeros (ha.below hb3 ha.lt) hs
  have hB3 := own_zeros (hbk.below hb3 hbk.lt) hn
  have hnd := snoc_step (AC := some ⟨pa, 0, none⟩) (BC := some ⟨pb, 0, none⟩) (c := s) (d' := n) (x := ⟨List.replicate s 0, List.replicate n 0⟩) h.g.nodes hbW (by simpa using hA3) (fun ad e => by injection e with e; subst e; exact hpa) (by simpa using hB3) (fun ad e => by injection e with e; subst e; exact hpb)
    (fun ad ad' e e' => by injection e with e; injection e' with e'; subst e e'; exact hne) hg (by simpa using hown) hat
  simp only [List.length_replicate] at hnd
  have hlt := h.blk.lt
  have hlo : ∀ k, tag3 o w.heap.size false σ.now.nodes.length (some ⟨pa, 0, none⟩) (some ⟨pb, 0, none⟩) D4 k ≠ .other → B ≤ k := fun k hk => by
    rcases tag3_lo hk with ⟨_, h1⟩ | h1
    · exact h.lo k h1
    · have := h.lo P (by rw [h.oP]; exact fun h => by cases h); omega
  generalize ho' : tag3 o w.heap.size false σ.now.nodes.length (some ⟨pa, 0, none⟩) (some ⟨pb, 0, none⟩) D4 = o' at hnd hlo
  have hext : ∀ k, k < w.heap.size → o' k = o k := fun k hk => by rw [← ho']; exact if_pos hk
  have hhp : ∀ k, k = P → o' k = .heap := fun k e => by rw [e, hext _ hlt]; exact h.oP
  have hDo : ∀ k, some k = (Value.slice D σ.now.nodes.length d).ownBlock → o k = .nodes false := fun k hk => by
    obtain ⟨ad, e, rfl⟩ := block_iff hk.symm
    exact h.g.nodes.tag ad e
  have mg : Mod (fun k => some k = (Value.slice D σ.now.nodes.length d).ownBlock) w w4 := Mod.trans (Mod.of_below (S := fun k => some k = (Value.slice D σ.now.nodes.length d).ownBlock) hbW) (Mod.of_grown hg) (fun _ _ h => h)
  have ms : Mod (fun k => k = P) w4 (w4.setCell ⟨P, 1, none⟩ (.slice D4 (σ.now.nodes.length + 1) d4)) := mod_set' (S := fun k => k = P) (Mod.refl _ _) rfl _
  have hblk := h.blk.mod mg (fun e => by have := hDo _ e; rw [h.oP] at this; cases this)
  have hc1 := (hblk.cell 1).trans h.mc.c1
  have hT : Turn w (w4.setCell ⟨P, 1, none⟩ (.slice D4 (σ.now.nodes.length + 1) d4)) o o' := ⟨Mod.trans (S := fun k => o k ≠ .other ∧ (o k).side ≠ some true) (mg.mono (fun k _ e => by rw [hDo k e]; simp [Tag.side])) ms (fun k _ e => by rw [e, h.oP]; simp [Tag.side]), hext⟩
  refine ⟨⟨o', ⟨A, c, D4, d4, xs ++ [.slice (some ⟨pa, 0, none⟩) s s, .slice (some ⟨pb, 0, none⟩) n n], u0, u1, cs.setIfInBounds 1 (.slice D4 (σ.now.nodes.length + 1) d4), ⟨?_, ?_⟩, hblk.set_ 1 _, ?_, hhp _ rfl, hlo, h.last.turn hT⟩, hT⟩, hc1, hblk.frozen 1, hblk.lt⟩
  · exact (h.g.roots.mod mg (fun k _ e e2 => by rw [hDo k e] at e2; cases e2) hext).mod ms (fun k _ e e2 => by rw [hhp k e] at e2; cases e2) (fun _ _ => rfl)
  · exact hnd.mod ms (fun k _ e => by rw [hhp k e]; exact fun h => by cases h) (fun _ _ => rfl)
  · have hlen : (mkN σ.now (s : Int) (n : Int)).nodes.length = σ.now.nodes.length + 1 := by simp [mkN]
    show MC _ _ (.slice D4 (mkN σ.now (s : Int) (n : Int)).nodes.length d4) _ _ _ _ _
    rw [hlen]
    exact h.mc.row _
theorem RMc.ref0 (h : RMc w o B P A c D d xs u0 u1 cs σ most) (hr : σ.refs.length = 4) (i : Nat) (hi : i < 4) (v : Int) (n : Nat) : RDone w o B P most { σ with refs := pu σ.refs (i : Int) v } ((w.setCell ⟨P, 2 + i, none⟩ (.int .i64 v)).drewN n) := by
  have h1 := h.cell (2 + i) (.int .i64 v) (h.mc.ref hr i hi v)
  have hb := below_drewN (Below.refl (w.setCell ⟨P, 2 + i, none⟩ (.int .i64 v)).heap.size (w.setCell ⟨P, 2 + i, none⟩ (.int .i64 v))) n
  exact ⟨o, ⟨A, c, D, d, xs, u0, u1, _, h1.below hb⟩, (Rf.turn_cell h.oP _ _).trans (Turn.of_below hb)⟩
end
theorem insS {w : World} {Q : Nat} {a b c d : Value} (h : Blk w Q 58 #[a, b, c, d]) : w.cell? ⟨Q, 2, none⟩ = some c ∧ w.cell? ⟨Q, 3, none⟩ = some d := ⟨h.cell 2, h.cell 3⟩
theorem blkDr {w : World} {g : Nat} {t : TypeId} {cs : Array Value} (h : Blk w g t cs) : Blk w.drew g t cs := h.drewN 1
theorem keep3 {w : World} {a b c : Addr} {x y z : Value} (ob : Obj) (h : w.cell? a = some x ∧ w.cell? b = some y ∧ w.cell? c = some z) : (w.alloc ob).cell? a = some x ∧ (w.alloc ob).cell? b = some y ∧ (w.alloc ob).cell? c = some z :=
  ⟨(World.cell?_alloc_some _ _ _ (by rw [h.1]; rfl)).trans h.1, (World.cell?_alloc_some _ _ _ (by rw [h.2.1]; rfl)).trans h.2.1, (World.cell?_alloc_some _ _ _ (by rw [h.2.2]; rfl)).trans h.2.2⟩
theorem RDone.then {w w1 w2 : World} {o : Nat → Tag} {B P : Nat} {most m2 : Int} {σ τ : St} (h : RDone w o B P most σ w1) (k : ∀ o', RMo w1 o' B P σ most → RDone w1 o' B P m2 τ w2) : RDone w o B P m2 τ w2 := by
  obtain ⟨o1, h1, h2⟩ := h
  obtain ⟨o2, k1, k2⟩ := k o1 h1
  exact ⟨o2, k1, h2.trans k2⟩

set_option maxRecDepth 100000 in
set_option maxHeartbeats 8000000 in
theorem do_7 {w : World} {o : Nat → Tag} {B P : Nat} {σ : St} {most : Int} (h : RMo w o B P σ most) (N : Nat) (hN : N ≤ 90000) (hw : Well N σ) (x : Ins) (n : Nat) (hx : x.ok n = true) (e : x.op = 7) (hbc : x.b ≤ 15 ∧ x.c ≤ 30) (at_ : Nat) (hat : at_ ≤ 100000) :
    Calls Tryz.prog 37 #[.pointer (some ⟨P, 0, none⟩), .agg #[.int .i64 x.op, .int .i64 x.a, .int .i64 x.b, .int .i64 x.c], .int .i64 (at_ : Int)] w fun en w' => DoPost w o B P most x at_ σ en w' := by
  obtain ⟨i0, hi0, hz0, hz1, hz2⟩ := info_parts1 nodeInfo
  obtain ⟨A, c, D, d, xs, u0, u1, cs, h⟩ := h
  obtain ⟨p1, p2, p3⟩ := okp hx
  have hrl := hw.refs
  have hst := step_7 { σ with pc := at_ + 1 } e
  have hrs : rstep x { σ with pc := at_ + 1 } = Mo.step x { σ with pc := at_ + 1 } := if_neg (by rw [e]; decide)
  have htd : told x σ = -1 := if_neg (by rw [e]; decide)
  rw [e] at p1 p2 p3
  obtain ⟨ia, ea, ha⟩ := reg_of (by decide) p1
  obtain ⟨ib, eb, hb⟩ := free_of p2
  obtain ⟨ic, ec, hc⟩ := free_of p3
  unfold DoPost
  rw [hrs, htd, hst]
  dsimp only
  obtain ⟨op, xa, xb, xc⟩ := x
  simp only at e ea eb ec hbc
  subst e ea eb ec
  have hib : ib ≤ 15 := by omega
  have hic : ic ≤ 30 := by omega
  have ha1 : (ia : Int) < 4 := by omega
  obtain ⟨L, hL⟩ : ∃ L, σ.now.nodes.length = L := ⟨_, rfl⟩
  have hlen : L ≤ 100000 := by have := hw.now.size; omega
  have hms := make_ints ib (by omega)
  have hmn := make_ints ic (by omega)
  have H1 := Lib.hid (fun (ob : Obj) => (h.cut.below (below_1 w ob)))
  have HP := Lib.hid h.blk.lt
  have hTc : Turn w w o (Rf.cut w.heap.size o) := ⟨Mod.refl _ _, fun k hk => cut_lt hk⟩
  have HTC := Lib.hid hTc
  have HLL := Lib.hid hL
  rw [hL]
  clear h hw hx p1 p2 p3 hst hrs htd hbc hTc hL
  go_enter Tryz.func37, Tryz.ntmps37
  go_wp2_with fail
  have h2 := H1.out (.cells #[.int .i64 7, .int .i64 (ia : Int), .int .i64 (ib : Int), .int .i64 (ic : Int)] 58)
  have HI := Lib.hid (Blk.new w 58 #[.int .i64 7, .int .i64 (ia : Int), .int .i64 (ib : Int), .int .i64 (ic : Int)])
  have HBW := Lib.hid (below_1 w (.cells #[.int .i64 7, .int .i64 (ia : Int), .int .i64 (ib : Int), .int .i64 (ic : Int)] 58))
  have hcq : Rf.cut w.heap.size o w.heap.size = .other := cut_new (Nat.le_refl _)
  generalize hW : w.alloc (.cells #[.int .i64 7, .int .i64 (ia : Int), .int .i64 (ib : Int), .int .i64 (ic : Int)] 58) = W1 at h2 HI HBW ⊢
  have HCUT := Lib.hid hcq
  clear hcq
  have hrow := h2.g.nodes.own
  have hL2 := HLL.out
  rw [hL2] at hrow
  have HR := Lib.hid hrow
  have c1 := (h2.blk.cell 1).trans h2.mc.c1
  rw [hL2] at c1
  have f1 := h2.blk.frozen 1
  have zl := h2.blk.lt
  have zl1 : P < W1.heap.size + 1 := by omega
  have zl2 : P < W1.heap.size + 1 + 1 := by omega
  have zl3 : P < W1.heap.size + 1 + 1 + 1 := by omega
  have i1 := HI.out.cell 1
  have i2 := HI.out.cell 2
  have i3 := HI.out.cell 3
  have zi := HI.out.lt
  simp only [List.getElem?_toArray, List.getElem?_cons_zero, List.getElem?_cons_succ] at i1 i2 i3
  have zi1 : w.heap.size < W1.heap.size + 1 := by omega
  have zi2 : w.heap.size < W1.heap.size + 1 + 1 := by omega
  have zi3 : w.heap.size < W1.heap.size + 1 + 1 + 1 := by omega
  have HH := Lib.hid h2
  have HBI := Lib.hid HI.out
  clear h2 hrow hL2
  go_upto_region 18 with fail
  go_cut [] (fun wx => RDone W1 (Rf.cut w.heap.size o) B P most { σ with now := mkN σ.now ib ic } wx)
  case first =>
    have hND := own_blk_ne HR.out HBI.out (by decide)
    have HND := Lib.hid hND
    clear hND
    refine wp_region_lastL (fun W => W.cell? ⟨P, 1, none⟩ = some (.slice D L d) ∧ W.cell? ⟨w.heap.size, 2, none⟩ = some (.int .i64 (ib : Int)) ∧ W.cell? ⟨w.heap.size, 3, none⟩ = some (.int .i64 (ic : Int))) [_, _, _, _, _, _, _, _, _, _, _, _, _, _, _, _, _, _] _ 18 rfl rfl (by kernel_rfl) (by kernel_rfl) ⟨c1, i2, i3⟩ (fun hHeld0 => ?_)
    refine takeL (v := ?v1) 0 rfl (by kernel_rfl) (by kernel_rfl) (by kernel_rfl) (fun _ _ _ h => h) (by rfl) ?hy1 (by assumption) ?rest1
    case hy1 => (intro w hSw; (try dsimp only at hSw); go_simp; (try with_reducible rfl))
    try simp only [Act.put, List.setIfInBounds_toArray, List.set_cons_zero, List.set_cons_succ]
    refine takeL (v := ?v2) 1 rfl (by kernel_rfl) (by kernel_rfl) (by kernel_rfl) (fun _ _ _ h => h) (by rfl) ?hy2 (by assumption) ?rest2
    case hy2 => (intro w hSw; (try dsimp only at hSw); go_simp; (try with_reducible rfl))
    try simp only [Act.put, List.setIfInBounds_toArray, List.set_cons_zero, List.set_cons_succ]
    refine takeL (v := ?v3) 2 rfl (by kernel_rfl) (by kernel_rfl) (by kernel_rfl) (fun _ _ _ h => h) (by rfl) ?hy3 (by assumption) ?rest3
    case hy3 => (intro w hSw; (try dsimp only at hSw); go_simp; (try with_reducible rfl))
    try simp only [Act.put, List.setIfInBounds_toArray, List.set_cons_zero, List.set_cons_succ]
    refine takeL (v := ?v4) 3 rfl (by kernel_rfl) (by kernel_rfl) (by kernel_rfl) (fun _ _ _ h => h) (by rfl) ?hy4 (by assumption) ?rest4
    case hy4 => (intro w hSw; (try dsimp only at hSw); go_simp; (try with_reducible rfl))
    try simp only [Act.put, List.setIfInBounds_toArray, List.set_cons_zero, List.set_cons_succ]
    refine takeL (v := ?v5) 4 rfl (by kernel_rfl) (by kernel_rfl) (by kernel_rfl) (fun _ _ _ h => h) (by rfl) ?hy5 (by assumption) ?rest5
    case hy5 => (intro w hSw; (try dsimp only at hSw); go_simp; (try with_reducible rfl))
    try simp only [Act.put, List.setIfInBounds_toArray, List.set_cons_zero, List.set_cons_succ]
    refine takeL (v := ?v6) 5 rfl (by kernel_rfl) (by kernel_rfl) (by kernel_rfl) (fun _ _ _ h => h) (by rfl) ?hy6 (by assumption) ?rest6
    case hy6 => (intro w hSw; (try dsimp only at hSw); go_simp; (try with_reducible rfl))
    try simp only [Act.put, List.setIfInBounds_toArray, List.set_cons_zero, List.set_cons_succ]
    refine takeL (v := ?v7) 6 rfl (by kernel_rfl) (by kernel_rfl) (by kernel_rfl) (fun _ _ _ h => h) (by rfl) ?hy7 (by assumption) ?rest7
    case hy7 => (intro w hSw; (try dsimp only at hSw); go_simp; (try with_reducible rfl))
    try simp only [Act.put, List.setIfInBounds_toArray, List.set_cons_zero, List.set_cons_succ]
    refine takeL (v := ?v8) 7 rfl (by kernel_rfl) (by kernel_rfl) (by kernel_rfl) (fun _ _ _ h => h) (by rfl) ?hy8 (by assumption) ?rest8
    case hy8 => (intro w hSw; (try dsimp only at hSw); go_simp; (try with_reducible rfl))
    try simp only [Act.put, List.setIfInBounds_toArray, List.set_cons_zero, List.set_cons_succ]
    refine takeL (v := ?v9) 9 rfl (by kernel_rfl) (by kernel_rfl) (by kernel_rfl) (fun _ _ _ h => h) (by rfl) ?hy9 (by assumption) ?rest9
    case hy9 => (intro w hSw; (try dsimp only at hSw); go_simp; (try with_reducible rfl))
    try simp only [Act.put, List.setIfInBounds_toArray, List.set_cons_zero, List.set_cons_succ]
    refine takeL (v := ?v10) 10 rfl (by kernel_rfl) (by kernel_rfl) (by kernel_rfl) (fun _ _ _ h => h) (by rfl) ?hy10 (by assumption) ?rest10
    case hy10 => (intro w hSw; (try dsimp only at hSw); go_simp; (try with_reducible rfl))
    try simp only [Act.put, List.setIfInBounds_toArray, List.set_cons_zero, List.set_cons_succ]
    refine wpAnyH_ready (rs := [8, 11]) (by kernel_rfl) (by simp) ?_
    refine consL 8 rfl (fun K hK => ?_) (consL 11 rfl (fun K hK => ?_) AllReadyH.nil)
    · (try go_simp)
      refine hK.out _ _ ?hS11 (fun hHeld1 => ?rest11)
      case hS11 => (first | exact keep3 _ hHeld0 | go_keep)
      clear hK K hHeld0
      try simp only [Act.put, List.setIfInBounds_toArray, List.set_cons_zero, List.set_cons_succ]
      refine wpAnyH_ready (rs := [11]) (by kernel_rfl) (by simp) ?_
      refine consL 11 rfl (fun K hK => ?_) AllReadyH.nil
      (try go_simp)
      refine hK.out _ _ ?hS12 (fun hHeld2 => ?rest12)
      case hS12 => (first | exact keep3 _ hHeld1 | go_keep)
      clear hK K hHeld1
      try simp only [Act.put, List.setIfInBounds_toArray, List.set_cons_zero, List.set_cons_succ]
      refine takeL (v := ?v13) 12 rfl (by kernel_rfl) (by kernel_rfl) (by kernel_rfl) (fun _ _ _ h => h) (by rfl) ?hy13 (by assumption) ?rest13
      case hy13 => (intro w hSw; (try dsimp only at hSw); go_simp; (try with_reducible rfl))
      try simp only [Act.put, List.setIfInBounds_toArray, List.set_cons_zero, List.set_cons_succ]
      refine wpAnyH_ready (rs := [13]) (by kernel_rfl) (by simp) ?_
      refine consL 13 rfl (fun K hK => ?_) AllReadyH.nil
      (try go_simp)
      refine hK.out _ _ ?hS14 (fun hHeld3 => ?rest14)
      case hS14 => (first | exact keep3 _ hHeld2 | go_keep)
      clear hK K hHeld2
      try simp only [Act.put, List.setIfInBounds_toArray, List.set_cons_zero, List.set_cons_succ]
      refine wpAnyH_ready (rs := [14]) (by kernel_rfl) (by simp) ?_
      refine consL 14 rfl (fun K hK => ?_) AllReadyH.nil
      refine step_append_any _ rfl _ _ _ (by rfl) 0 55 i0 _ 2 48 Tryz.underlying23 hi0 hz0 hz1 hz2 rfl (by omega) (.slice D L d) L xs (by rfl) (own_ahead2 HR.out _ _ _ (by (first | exact like_self _ | exact like_drew (like_self _) | exact like_drew (like_drew (like_self _)) | exact like_drew (like_drew (like_drew (like_self _)))))) _ 1 1 _ (by rfl) (by (first | exact reads_new_at (by simp) rfl | exact reads_drew (reads_new_at (by simp) rfl))) (by simp [Value.oneCell']) (fun e => by cases e) (by simp only [maxLen]; omega) (by omega) (by simp) ?_
      intro v4 w4 hown4 hg4 hat4
      obtain ⟨D4, d4, rfl, hd4⟩ := own_form hown4
      obtain ⟨r1, r3, r4, r5⟩ := RMc.alloc (s := ib) (n := ic) HH.out HLL.out (by omega) (by omega) (below_then (below_1 W1 _) (below_1 _ _)) (Blk.alloc (Blk.new W1 _ _) _) (second_blk W1 _ _ _ _) (by omega) (by omega) (by omega) _ (by (first | exact like_self _ | exact like_drew (like_self _) | exact like_drew (like_drew (like_self _)) | exact like_drew (like_drew (like_drew (like_self _))))) hg4 hown4 hat4
      have hI4 := grow_keep ((HBI.out.alloc _).alloc _) _ (by (first | exact like_self _ | exact like_drew (like_self _) | exact like_drew (like_drew (like_self _)) | exact like_drew (like_drew (like_drew (like_self _))))) hg4 HND.out
      have hS2 := hI4.cell 2
      have hS3 := hI4.cell 3
      simp only [List.getElem?_toArray, List.getElem?_cons_zero, List.getElem?_cons_succ] at hS2 hS3
      have HZ := Lib.hid r1
      clear hI4 r1 hown4 hg4 hat4
      refine hK.out _ _ ?hS15 (fun hHeld4 => ?rest15)
      case hS15 => exact ⟨r3, hS2, hS3⟩
      clear hK K hHeld3
      try simp only [Act.put, List.setIfInBounds_toArray, List.set_cons_zero, List.set_cons_succ]
      refine takeL (v := ?v16) 15 rfl (by kernel_rfl) (by kernel_rfl) (by kernel_rfl) (fun _ _ _ h => h) (by rfl) ?hy16 (by assumption) ?rest16
      case hy16 => (intro w hSw; (try dsimp only at hSw); go_simp; (try with_reducible rfl))
      try simp only [Act.put, List.setIfInBounds_toArray, List.set_cons_zero, List.set_cons_succ]
      refine takeL (v := ?v17) 16 rfl (by kernel_rfl) (by kernel_rfl) (by kernel_rfl) (fun _ _ _ h => h) (by rfl) ?hy17 (by assumption) ?rest17
      case hy17 => (intro w hSw; (try dsimp only at hSw); go_simp; (try with_reducible rfl))
      try simp only [Act.put, List.setIfInBounds_toArray, List.set_cons_zero, List.set_cons_succ]
      refine takeL (v := ?v18) 17 rfl (by kernel_rfl) (by kernel_rfl) (by kernel_rfl) (fun _ _ _ h => h) (by rfl) ?hy18 (by assumption) ?rest18
      case hy18 => (intro w hSw; (try dsimp only at hSw); go_simp; (try with_reducible rfl))
      try simp only [Act.put, List.setIfInBounds_toArray, List.set_cons_zero, List.set_cons_succ]
      refine wpAnyH_done (by kernel_rfl) ?_ _
      refine lastL rfl (fun K hK => ?_)
      (try go_simp)
      refine hK.out _ _ ?_
      clear hK K
      try simp only [Act.put, List.setIfInBounds_toArray, List.set_cons_zero, List.set_cons_succ]
      go_wp2_with fail
      go_meet
      exact HZ.out
    · (try go_simp)
      refine hK.out _ _ ?hS19 (fun hHeld1 => ?rest19)
      case hS19 => (first | exact keep3 _ hHeld0 | go_keep)
      clear hK K hHeld0
      try simp only [Act.put, List.setIfInBounds_toArray, List.set_cons_zero, List.set_cons_succ]
      refine wpAnyH_ready (rs := [8]) (by kernel_rfl) (by simp) ?_
      refine consL 8 rfl (fun K hK => ?_) AllReadyH.nil
      (try go_simp)
      refine hK.out _ _ ?hS20 (fun hHeld2 => ?rest20)
      case hS20 => (first | exact keep3 _ hHeld1 | go_keep)
      clear hK K hHeld1
      try simp only [Act.put, List.setIfInBounds_toArray, List.set_cons_zero, List.set_cons_succ]
      refine takeL (v := ?v21) 12 rfl (by kernel_rfl) (by kernel_rfl) (by kernel_rfl) (fun _ _ _ h => h) (by rfl) ?hy21 (by assumption) ?rest21
      case hy21 => (intro w hSw; (try dsimp only at hSw); go_simp; (try with_reducible rfl))
      try simp only [Act.put, List.setIfInBounds_toArray, List.set_cons_zero, List.set_cons_succ]
      refine wpAnyH_ready (rs := [13]) (by kernel_rfl) (by simp) ?_
      refine consL 13 rfl (fun K hK => ?_) AllReadyH.nil
      (try go_simp)
      refine hK.out _ _ ?hS22 (fun hHeld3 => ?rest22)
      case hS22 => (first | exact keep3 _ hHeld2 | go_keep)
      clear hK K hHeld2
      try simp only [Act.put, List.setIfInBounds_toArray, List.set_cons_zero, List.set_cons_succ]
      refine wpAnyH_ready (rs := [14]) (by kernel_rfl) (by simp) ?_
      refine consL 14 rfl (fun K hK => ?_) AllReadyH.nil
      refine step_append_any _ rfl _ _ _ (by rfl) 0 55 i0 _ 2 48 Tryz.underlying23 hi0 hz0 hz1 hz2 rfl (by omega) (.slice D L d) L xs (by rfl) (own_ahead2 HR.out _ _ _ (by (first | exact like_self _ | exact like_drew (like_self _) | exact like_drew (like_drew (like_self _)) | exact like_drew (like_drew (like_drew (like_self _)))))) _ 1 1 _ (by rfl) (by (first | exact reads_new_at (by simp) rfl | exact reads_drew (reads_new_at (by simp) rfl))) (by simp [Value.oneCell']) (fun e => by cases e) (by simp only [maxLen]; omega) (by omega) (by simp) ?_
      intro v4 w4 hown4 hg4 hat4
      obtain ⟨D4, d4, rfl, hd4⟩ := own_form hown4
      obtain ⟨r1, r3, r4, r5⟩ := RMc.alloc (s := ib) (n := ic) HH.out HLL.out (by omega) (by omega) (below_then (below_1 W1 _) (below_1 _ _)) (second_blk W1 _ _ _ _) (Blk.alloc (Blk.new W1 _ _) _) (by omega) (by omega) (by omega) _ (by (first | exact like_self _ | exact like_drew (like_self _) | exact like_drew (like_drew (like_self _)) | exact like_drew (like_drew (like_drew (like_self _))))) hg4 hown4 hat4
      have hI4 := grow_keep ((HBI.out.alloc _).alloc _) _ (by (first | exact like_self _ | exact like_drew (like_self _) | exact like_drew (like_drew (like_self _)) | exact like_drew (like_drew (like_drew (like_self _))))) hg4 HND.out
      have hS2 := hI4.cell 2
      have hS3 := hI4.cell 3
      simp only [List.getElem?_toArray, List.getElem?_cons_zero, List.getElem?_cons_succ] at hS2 hS3
      have HZ := Lib.hid r1
      clear hI4 r1 hown4 hg4 hat4
      refine hK.out _ _ ?hS23 (fun hHeld4 => ?rest23)
      case hS23 => exact ⟨r3, hS2, hS3⟩
      clear hK K hHeld3
      try simp only [Act.put, List.setIfInBounds_toArray, List.set_cons_zero, List.set_cons_succ]
      refine takeL (v := ?v24) 15 rfl (by kernel_rfl) (by kernel_rfl) (by kernel_rfl) (fun _ _ _ h => h) (by rfl) ?hy24 (by assumption) ?rest24
      case hy24 => (intro w hSw; (try dsimp only at hSw); go_simp; (try with_reducible rfl))
      try simp only [Act.put, List.setIfInBounds_toArray, List.set_cons_zero, List.set_cons_succ]
      refine takeL (v := ?v25) 16 rfl (by kernel_rfl) (by kernel_rfl) (by kernel_rfl) (fun _ _ _ h => h) (by rfl) ?hy25 (by assumption) ?rest25
      case hy25 => (intro w hSw; (try dsimp only at hSw); go_simp; (try with_reducible rfl))
      try simp only [Act.put, List.setIfInBounds_toArray, List.set_cons_zero, List.set_cons_succ]
      refine takeL (v := ?v26) 17 rfl (by kernel_rfl) (by kernel_rfl) (by kernel_rfl) (fun _ _ _ h => h) (by rfl) ?hy26 (by assumption) ?rest26
      case hy26 => (intro w hSw; (try dsimp only at hSw); go_simp; (try with_reducible rfl))
      try simp only [Act.put, List.setIfInBounds_toArray, List.set_cons_zero, List.set_cons_succ]
      refine wpAnyH_done (by kernel_rfl) ?_ _
      refine lastL rfl (fun K hK => ?_)
      (try go_simp)
      refine hK.out _ _ ?_
      clear hK K
      try simp only [Act.put, List.setIfInBounds_toArray, List.set_cons_zero, List.set_cons_succ]
      go_wp2_with fail
      go_meet
      exact HZ.out
  case rest =>
    have HEND := Lib.hid (show ∀ (o3 : Nat → Tag) (q : Nat), RMo wc o3 B P { σ with now := mkN σ.now ib ic } most → Turn W1 wc (Rf.cut w.heap.size o) o3 → RDone w o B P most { ({ σ with pc := at_ + 1 } : St) with now := mkN σ.now ib ic, refs := pu σ.refs (ia : Int) ((L : Int) + 1) } ((wc.setCell ⟨P, 2 + ia, none⟩ (.int .i64 ((L : Int) + 1))).drewN q) from fun o3 q hm ht => by
      obtain ⟨A3, c3, D3, d3, xs3, u3, v3, cs3, hm⟩ := hm
      obtain ⟨o4, k1, k2⟩ := hm.ref0 hrl ia ha ((L : Int) + 1) q
      exact ⟨o4, k1.pc (at_ + 1) σ.outs, HTC.out.trans ((Turn.of_below HBW.out).trans (ht.trans k2))⟩)
    obtain ⟨o3, hm3, ht3⟩ := hcut
    have HM3 := Lib.hid hm3
    have HT3 := Lib.hid ht3
    obtain ⟨A3, c3, D3, d3, xs3, u3, v3, cs3, hm3⟩ := hm3
    have hl3 : (mkN σ.now (ib : Int) (ic : Int)).nodes.length = L + 1 := by simp [mkN, HLL.out]
    have hIB := HBI.out.mod ht3.mod (fun e => by
      have h1 := HCUT.out
      exact e.1 h1)
    have i1 := hIB.cell 1
    have zi := hIB.lt
    simp only [List.getElem?_toArray, List.getElem?_cons_zero, List.getElem?_cons_succ] at i1
    have c1 := (hm3.blk.cell 1).trans hm3.mc.c1
    rw [show ({ σ with now := mkN σ.now (ib : Int) (ic : Int) } : St).now.nodes.length = L + 1 from hl3] at c1
    have dd := (hm3.blk.cell (2 + ia)).trans (hm3.mc.a ia ha)
    have f0 := hm3.blk.frozen (2 + ia)
    have zP := hm3.blk.lt
    clear hm3 ht3 hIB hl3 HH HR
    go_wp2_with fail
    go_region
    go_wp2_with fail
    go_ret3
    exact ⟨rfl, HEND.out o3 1 HM3.out HT3.out⟩
end Go.Proofs.YteminkohgagedaaGreat.Rf
