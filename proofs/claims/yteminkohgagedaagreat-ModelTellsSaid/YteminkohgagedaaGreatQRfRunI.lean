/- The reference's Run: what stands in memory while it goes round. -/
import Derived.Test.YteminkohgagedaaGreatQRfNew
import Derived.Test.YteminkohgagedaaGreatQRfPlain
import Derived.Test.YteminkohgagedaaGreatQGrRefCanonM
namespace Go.Proofs.YteminkohgagedaaGreat.Rf
open Go.RowKit Go.Proofs.YteminkohgagedaaGreat.Base Go.Proofs.YteminkohgagedaaGreat.Gr Go.Proofs.YteminkohgagedaaGreat.Ver Go.Proofs.YteminkohgagedaaGreat.Mo
set_option linter.unusedVariables false
set_option linter.unusedSimpArgs false

/-! ### plain -/
theorem step_pc {x : Ins} {σ : St} (h5 : x.op ≠ 5) (h6 : x.op ≠ 6) : (Mo.step x σ).2.pc = σ.pc := by
  by_cases e1 : x.op = 1
  · (rw [step_1 σ e1]) <;> first | rfl | (split <;> rfl) | (dsimp only; split <;> rfl)
  by_cases e2 : x.op = 2
  · (rw [step_2 σ e2]) <;> first | rfl | (split <;> rfl) | (dsimp only; split <;> rfl)
  by_cases e3 : x.op = 3
  · (rw [step_3 σ e3]) <;> first | rfl | (split <;> rfl) | (dsimp only; split <;> rfl)
  by_cases e4 : x.op = 4
  · (rw [step_4 σ e4]) <;> first | rfl | (split <;> rfl) | (dsimp only; split <;> rfl)
  by_cases e7 : x.op = 7
  · (rw [step_7 σ e7]) <;> first | rfl | (split <;> rfl) | (dsimp only; split <;> rfl)
  by_cases e8 : x.op = 8
  · (rw [step_8 σ e8]) <;> first | rfl | (split <;> rfl) | (dsimp only; split <;> rfl)
  by_cases e9 : x.op = 9
  · (rw [step_9 σ e9]) <;> first | rfl | (split <;> rfl) | (dsimp only; split <;> rfl)
  by_cases e10 : x.op = 10
  · (rw [step_10 σ e10]) <;> first | rfl | (split <;> rfl) | (dsimp only; split <;> rfl)
  by_cases e11 : x.op = 11
  · (rw [step_11 σ e11]) <;> first | rfl | (split <;> rfl) | (dsimp only; split <;> rfl)
  by_cases e12 : x.op = 12
  · (rw [step_12 σ e12]) <;> first | rfl | (split <;> rfl) | (dsimp only; split <;> rfl)
  by_cases e13 : x.op = 13
  · (rw [step_13 σ e13]) <;> first | rfl | (split <;> rfl) | (dsimp only; split <;> rfl)
  by_cases e14 : x.op = 14
  · (rw [step_14 σ e14]) <;> first | rfl | (split <;> rfl) | (dsimp only; split <;> rfl)
  by_cases e15 : x.op = 15
  · (rw [step_15 σ e15]) <;> first | rfl | (split <;> rfl) | (dsimp only; split <;> rfl)
  by_cases e16 : x.op = 16
  · (rw [step_16 σ e16]) <;> first | rfl | (split <;> rfl) | (dsimp only; split <;> rfl)
  by_cases e17 : x.op = 17
  · (rw [step_17 σ e17]) <;> first | rfl | (split <;> rfl) | (dsimp only; split <;> rfl)
  by_cases e18 : x.op = 18
  · (rw [step_18 σ e18]) <;> first | rfl | (split <;> rfl) | (dsimp only; split <;> rfl)
  by_cases e19 : x.op = 19
  · (rw [step_19 σ e19]) <;> first | rfl | (split <;> rfl) | (dsimp only; split <;> rfl)
  by_cases e20 : x.op = 20
  · (rw [step_20 σ e20]) <;> first | rfl | (split <;> rfl) | (dsimp only; split <;> rfl)
  by_cases e21 : x.op = 21
  · (rw [step_21 σ e21]) <;> first | rfl | (split <;> rfl) | (dsimp only; split <;> rfl)
  have hs : Mo.step x σ = (if gt σ.refs x.b = 0 then (7, σ) else (0, { σ with nums := pu σ.nums x.a ((nd σ.now (gt σ.refs x.b)).words.length) })) := by
    unfold Mo.step
    simp only [e1, e2, e3, e4, e7, e8, e9, e10, e11, e12, e13, e14, e15, e16, e17, e18, e19, e20, e21, h5, h6, if_false]
  rw [hs]
  split <;> rfl
theorem rstep_pc {n : Nat} {x : Ins} {σ : St} (hx : x.ok n = true) (hp : σ.pc ≤ n) : (rstep x σ).2.pc ≤ n := by
  by_cases e14 : x.op = 14
  · have e1 : rstep x σ = (0, { σ with last := number σ.now }) := if_pos e14
    rw [e1]
    exact hp
  have e1 : rstep x σ = Mo.step x σ := if_neg e14
  rw [e1]
  have ht : x.op = 5 ∨ x.op = 6 → (x.b + 256 * x.c).toNat ≤ n := fun h => by
    have hx := hx
    simp only [Ins.ok, one, Bool.and_eq_true, decide_eq_true_eq] at hx
    have h1 := hx.2 h
    have hb := num_byt hx.1.1.2.2.1
    have hc := num_byt hx.1.1.2.2.2
    rw [tgt_of _ _ hb hc] at h1
    have := byt_iff hb
    have := byt_iff hc
    omega
  by_cases e5 : x.op = 5
  · rw [step_5 σ e5]
    exact ht (.inl e5)
  by_cases e6 : x.op = 6
  · rw [step_6 σ e6]
    dsimp only
    split
    · exact ht (.inr e6)
    · exact hp
  rw [step_pc e5 e6]
  exact hp
theorem step_outs {x : Ins} {σ : St} (h16 : x.op ≠ 16) : (Mo.step x σ).2.outs = σ.outs := by
  by_cases e1 : x.op = 1
  · (rw [step_1 σ e1]) <;> first | rfl | (split <;> rfl) | (dsimp only; split <;> rfl)
  by_cases e2 : x.op = 2
  · (rw [step_2 σ e2]) <;> first | rfl | (split <;> rfl) | (dsimp only; split <;> rfl)
  by_cases e3 : x.op = 3
  · (rw [step_3 σ e3]) <;> first | rfl | (split <;> rfl) | (dsimp only; split <;> rfl)
  by_cases e4 : x.op = 4
  · (rw [step_4 σ e4]) <;> first | rfl | (split <;> rfl) | (dsimp only; split <;> rfl)
  by_cases e5 : x.op = 5
  · (rw [step_5 σ e5]) <;> first | rfl | (split <;> rfl) | (dsimp only; split <;> rfl)
  by_cases e6 : x.op = 6
  · (rw [step_6 σ e6]) <;> first | rfl | (split <;> rfl) | (dsimp only; split <;> rfl)
  by_cases e7 : x.op = 7
  · (rw [step_7 σ e7]) <;> first | rfl | (split <;> rfl) | (dsimp only; split <;> rfl)
  by_cases e8 : x.op = 8
  · (rw [step_8 σ e8]) <;> first | rfl | (split <;> rfl) | (dsimp only; split <;> rfl)
  by_cases e9 : x.op = 9
  · (rw [step_9 σ e9]) <;> first | rfl | (split <;> rfl) | (dsimp only; split <;> rfl)
  by_cases e10 : x.op = 10
  · (rw [step_10 σ e10]) <;> first | rfl | (split <;> rfl) | (dsimp only; split <;> rfl)
  by_cases e11 : x.op = 11
  · (rw [step_11 σ e11]) <;> first | rfl | (split <;> rfl) | (dsimp only; split <;> rfl)
  by_cases e12 : x.op = 12
  · (rw [step_12 σ e12]) <;> first | rfl | (split <;> rfl) | (dsimp only; split <;> rfl)
  by_cases e13 : x.op = 13
  · (rw [step_13 σ e13]) <;> first | rfl | (split <;> rfl) | (dsimp only; split <;> rfl)
  by_cases e14 : x.op = 14
  · (rw [step_14 σ e14]) <;> first | rfl | (split <;> rfl) | (dsimp only; split <;> rfl)
  by_cases e15 : x.op = 15
  · (rw [step_15 σ e15]) <;> first | rfl | (split <;> rfl) | (dsimp only; split <;> rfl)
  by_cases e17 : x.op = 17
  · (rw [step_17 σ e17]) <;> first | rfl | (split <;> rfl) | (dsimp only; split <;> rfl)
  by_cases e18 : x.op = 18
  · (rw [step_18 σ e18]) <;> first | rfl | (split <;> rfl) | (dsimp only; split <;> rfl)
  by_cases e19 : x.op = 19
  · (rw [step_19 σ e19]) <;> first | rfl | (split <;> rfl) | (dsimp only; split <;> rfl)
  by_cases e20 : x.op = 20
  · (rw [step_20 σ e20]) <;> first | rfl | (split <;> rfl) | (dsimp only; split <;> rfl)
  by_cases e21 : x.op = 21
  · (rw [step_21 σ e21]) <;> first | rfl | (split <;> rfl) | (dsimp only; split <;> rfl)
  have hs : Mo.step x σ = (if gt σ.refs x.b = 0 then (7, σ) else (0, { σ with nums := pu σ.nums x.a ((nd σ.now (gt σ.refs x.b)).words.length) })) := by
    unfold Mo.step
    simp only [e1, e2, e3, e4, e5, e6, e7, e8, e9, e10, e11, e12, e13, e14, e15, e17, e18, e19, e20, e21, h16, if_false]
  rw [hs]
  split <;> rfl
theorem rstep_bad {x : Ins} {σ : St} (h : (rstep x σ).1 ≠ 0) : (rstep x σ).2 = σ := by
  by_cases e14 : x.op = 14
  · have e1 : rstep x σ = (0, { σ with last := number σ.now }) := if_pos e14
    rw [e1] at h
    exact absurd rfl h
  · have e1 : rstep x σ = Mo.step x σ := if_neg e14
    rw [e1] at h ⊢
    exact step_err h
/-- What is told is put behind what was told. -/
theorem gt_nonneg {l : List Int} (h : wordsOk l = true) (i : Int) : 0 ≤ gt l i := by
  unfold gt
  rw [List.getD_eq_getElem?_getD]
  cases e : l[i.toNat]? with
  | none => exact Int.le_refl _
  | some v =>
    have := List.all_eq_true.1 h v (List.mem_of_getElem? e)
    simp only [Bool.and_eq_true, decide_eq_true_eq] at this
    exact this.1
theorem rstep_outs {N : Nat} (x : Ins) {σ : St} (hw : Well N σ) : (rstep x σ).2.outs = if 0 ≤ told x σ ∧ σ.outs.length < 1000 then σ.outs ++ [told x σ] else σ.outs := by
  by_cases e : x.op = 16
  · have e1 : rstep x σ = Mo.step x σ := if_neg (by rw [e]; decide)
    have e2 : told x σ = gt σ.nums x.a := if_pos e
    have h0 := gt_nonneg hw.numsN x.a
    rw [e1, e2, step_16 σ e]
    by_cases h : σ.outs.length < 1000
    · dsimp only
      rw [if_pos h, if_pos ⟨h0, h⟩]
    · dsimp only
      rw [if_neg h, if_neg (fun q => h q.2)]
  · have e2 : told x σ = -1 := if_neg e
    rw [e2, if_neg (fun q => by have := q.1; omega)]
    by_cases e14 : x.op = 14
    · have e1 : rstep x σ = (0, { σ with last := number σ.now }) := if_pos e14
      rw [e1]
    · have e1 : rstep x σ = Mo.step x σ := if_neg e14
      rw [e1]
      exact step_outs e
theorem rexec_out {l : List Ins} {n m : Nat} {σ : St} (h : ¬ σ.pc < l.length) : rexec l n σ m = (⟨0, l.length, n, σ⟩, m) := by
  cases n with
  | zero => rw [rexec, if_neg h]
  | succ n => rw [rexec, if_neg h]
theorem rexec_fuel {l : List Ins} {m : Nat} {σ : St} (h : σ.pc < l.length) : rexec l 0 σ m = (⟨11, σ.pc, 0, σ⟩, m) := by rw [rexec, if_pos h]
theorem rexec_halt {l : List Ins} {n m : Nat} {σ : St} (h : σ.pc < l.length) (h0 : (insAt l σ.pc).op = 0) : rexec l (n + 1) σ m = (⟨0, σ.pc, n, { σ with pc := σ.pc + 1 }⟩, m) := by rw [rexec, if_pos h, if_pos h0]
theorem rexec_go {l : List Ins} {n m : Nat} {σ : St} (h : σ.pc < l.length) (h0 : (insAt l σ.pc).op ≠ 0) (h1 : (rstep (insAt l σ.pc) { σ with pc := σ.pc + 1 }).1 = 0) :
    rexec l (n + 1) σ m = rexec l n (rstep (insAt l σ.pc) { σ with pc := σ.pc + 1 }).2 (max m (reach (rstep (insAt l σ.pc) { σ with pc := σ.pc + 1 }).2.now (rstep (insAt l σ.pc) { σ with pc := σ.pc + 1 }).2.refs)) := by rw [rexec, if_pos h, if_neg h0, if_pos h1]
theorem rexec_err {l : List Ins} {n m : Nat} {σ : St} (h : σ.pc < l.length) (h0 : (insAt l σ.pc).op ≠ 0) (h1 : (rstep (insAt l σ.pc) { σ with pc := σ.pc + 1 }).1 ≠ 0) :
    rexec l (n + 1) σ m = (⟨(rstep (insAt l σ.pc) { σ with pc := σ.pc + 1 }).1, σ.pc, n, (rstep (insAt l σ.pc) { σ with pc := σ.pc + 1 }).2⟩, m) := by rw [rexec, if_pos h, if_neg h0, if_neg h1]

/-! ### memory -/
section
variable {w w' w1 : World} {o o' : Nat → Tag} {B P : Nat} {σ : St} {most : Int}
/-- Blocks of the other side are written. -/
theorem RMo.outer {S : Nat → Prop} (h : RMo w o B P σ most) (hm : Mod S w w') (hS : ∀ k, k < w.heap.size → S k → o k = .roots true) : RMo w' o B P σ most := by
  obtain ⟨A, c, D, d, xs, u0, u1, cs, h⟩ := h
  refine ⟨A, c, D, d, xs, u0, u1, cs, h.g.mod hm (fun k hk e => by rw [hS k hk e]; simp [Tag.side]) (fun _ _ => rfl), h.blk.mod hm (fun e => by have := hS _ h.blk.lt e; rw [h.oP] at this; cases this), h.mc, h.oP, h.lo, fun w'' hm2 => ?_⟩
  exact h.last w'' (Mod.trans (hm.mono (fun k hk e => .inl (by rw [hS k hk e]; exact fun h => by cases h))) hm2 (fun _ _ e => e))
/-- Tags of blocks that are not there yet are of no weight. -/
theorem RMo.retag (h : RMo w o B P σ most) (ho : ∀ k, k < w.heap.size → o' k = o k) (hlo : ∀ k, o' k ≠ .other → B ≤ k) : RMo w o' B P σ most := by
  obtain ⟨A, c, D, d, xs, u0, u1, cs, h⟩ := h
  have hlt := h.blk.lt
  exact ⟨A, c, D, d, xs, u0, u1, cs, h.g.mod (Mod.refl (fun _ => False) w) (fun _ _ h => h.elim) ho, h.blk, h.mc, by rw [ho _ hlt]; exact h.oP, hlo, h.last.turn ⟨Mod.refl _ _, ho⟩⟩
theorem RMo.lo (h : RMo w o B P σ most) : ∀ k, o k ≠ .other → B ≤ k := by
  obtain ⟨A, c, D, d, xs, u0, u1, cs, h⟩ := h
  exact h.lo
end
/-- The machine, the result so far in block Q, what was told. -/
structure RunS (W2 w : World) (o : Nat → Tag) (P Q : Nat) (AO : Option Addr) (cO : Nat) (e a lf : Int) (σ : St) (most : Nat) : Prop where
  m : RMo w o W2.heap.size P σ (most : Int)
  below : Below W2.heap.size W2 w
  q : Blk w Q 42 #[.int .i64 e, .int .i64 a, .int .i64 lf, .slice AO σ.outs.length cO]
  oQ : o Q = .roots true
  row : w.ownsRow 0 3 1 (.slice AO σ.outs.length cO) σ.outs.length (enc ic σ.outs)
  oA : ∀ ad, AO = some ad → o ad.block = .roots true ∧ ad.block ≠ Q
section
variable {W2 w w' : World} {o : Nat → Tag} {P Q : Nat} {AO : Option Addr} {cO : Nat} {e a lf : Int} {σ : St} {most : Nat}
theorem RunS.hi (h : RunS W2 w o P Q AO cO e a lf σ most) : W2.heap.size ≤ Q := h.m.lo Q (by rw [h.oQ]; exact fun h => by cases h)
theorem RunS.set (h : RunS W2 w o P Q AO cO e a lf σ most) (i : Nat) (v : Value) (e' a' lf' : Int)
    (hq : (#[.int .i64 e, .int .i64 a, .int .i64 lf, .slice AO σ.outs.length cO] : Array Value).setIfInBounds i v = #[.int .i64 e', .int .i64 a', .int .i64 lf', .slice AO σ.outs.length cO]) :
    RunS W2 (w.setCell ⟨Q, i, none⟩ v) o P Q AO cO e' a' lf' σ most := by
  have hm : Mod (fun k => k = Q) w (w.setCell ⟨Q, i, none⟩ v) := mod_set' (S := fun k => k = Q) (Mod.refl _ _) rfl _
  refine ⟨h.m.outer hm (fun k _ e => by rw [e]; exact h.oQ), h.below.setCell h.hi _, ?_, h.oQ, own_far h.row (fun e => ?_) _, h.oA⟩
  · have := h.q.set_ i v
    rwa [hq] at this
  · obtain ⟨ad, e1, e2⟩ := block_iff e
    exact (h.oA ad e1).2 e2
theorem RunS.pc (h : RunS W2 w o P Q AO cO e a lf σ most) (k : Nat) : RunS W2 w o P Q AO cO e a lf { σ with pc := k } most :=
  ⟨h.m.pc k σ.outs, h.below, h.q, h.oQ, h.row, h.oA⟩
theorem RunS.next (h : RunS W2 w o P Q AO cO e a lf σ most) (hb : Below w.heap.size w w') : RunS W2 w' o P Q AO cO e a lf σ most :=
  ⟨h.m.below hb, h.below.trans (hb.mono h.below.size), h.q.below hb h.q.lt, h.oQ, own_below h.row hb, h.oA⟩
/-- An instruction is done. -/
theorem RunS.turn {σ' : St} (h : RunS W2 w o P Q AO cO e a lf σ most) (hd : RDone w o W2.heap.size P most σ' w') (ho : σ'.outs = σ.outs) : ∃ o', RunS W2 w' o' P Q AO cO e a lf σ' most := by
  obtain ⟨o', h1, h2⟩ := hd
  have hQ : ¬ (o Q ≠ .other ∧ (o Q).side ≠ some true) := by rw [h.oQ]; simp [Tag.side]
  have hA : ∀ k, (Value.slice AO σ.outs.length cO).ownBlock = some k → ¬ (o k ≠ .other ∧ (o k).side ≠ some true) := fun k hk => by
    obtain ⟨ad, e1, rfl⟩ := block_iff hk
    rw [(h.oA ad e1).1]
    simp [Tag.side]
  refine ⟨o', h1, Gr.mod_below h.below h2.mod h.below.size (fun b hb e => ?_), ?_, by rw [h2.ext Q h.q.lt]; exact h.oQ, ?_, fun ad e1 => ?_⟩
  · have := h.m.lo b e.1
    omega
  · rw [ho]
    exact h.q.mod h2.mod hQ
  · rw [ho]
    exact Gr.own_mod h.row h2.mod hA
  · have h3 := (own_block h.row ad.block (by rw [e1]; rfl)).2
    rw [h2.ext _ h3]
    exact h.oA ad e1
/-- The most cells are written. -/
theorem RunS.top (h : RunS W2 w o P Q AO cO e a lf σ most) (m' : Nat) : RunS W2 (w.setCell ⟨P, 12, none⟩ (.int .i64 (m' : Int))) o P Q AO cO e a lf σ m' := by
  have hP : o P = .heap := by
    obtain ⟨A, c, D, d, xs, u0, u1, cs, h1⟩ := h.m
    exact h1.oP
  obtain ⟨h1, h2⟩ := h.m.top (m' : Int)
  have hne : ∀ k, o k = .roots true → k ≠ P := fun k hk e => by rw [e, hP] at hk; cases hk
  refine ⟨h1, h.below.setCell (h.m.lo P (by rw [hP]; exact fun h => by cases h)) _, h.q.far (p := ⟨P, 12, none⟩) (hne Q h.oQ) _, h.oQ, own_far h.row (fun e => ?_) _, h.oA⟩
  obtain ⟨ad, e1, e2⟩ := block_iff e
  exact hne _ (h.oA ad e1).1 e2
/-- One number more is told. -/
theorem RunS.tell {W' w4 : World} {ob : Obj} {v4 : Value} {v : Int} (h : RunS W2 w o P Q AO cO e a lf σ most) (hl : Like (w.alloc ob) W') (hg : W'.grownBy w4 (Value.slice AO σ.outs.length cO).ownBlock)
    (hown : w4.ownsRow 0 3 1 v4 (σ.outs.length + 1) (enc ic σ.outs ++ [.int .i64 v])) (hat : v4.ownBlock = (Value.slice AO σ.outs.length cO).ownBlock ∨ v4.ownBlock = some W'.heap.size) :
    (∃ o' A4 c4, v4 = .slice A4 (σ.outs.length + 1) c4 ∧ RunS W2 (w4.setCell ⟨Q, 3, none⟩ v4) o' P Q A4 c4 e a lf { σ with outs := σ.outs ++ [v] } most) ∧ Blk w4 Q 42 #[.int .i64 e, .int .i64 a, .int .i64 lf, .slice AO σ.outs.length cO] := by
  obtain ⟨A4, c4, rfl, hc4⟩ := own_form hown
  have hb : Below w.heap.size w W' := by
    have := below_1 w ob
    exact ⟨hl.os.trans this.os, hl.tape.trans this.tape, hl.output.trans this.output, by rw [hl.heap]; exact this.size, fun i hi => by rw [hl.heap]; exact this.block i hi⟩
  have hW : W'.heap.size = w.heap.size + 1 := by rw [hl.heap]; simp
  have hQlt := h.q.lt
  have hBw := h.below.size
  obtain ⟨o', ho'⟩ : ∃ o' : Nat → Tag, o' = fun k => if k < w.heap.size then o k else if k = W'.heap.size then .roots true else .other := ⟨_, rfl⟩
  have hext : ∀ k, k < w.heap.size → o' k = o k := fun k hk => by rw [ho']; exact if_pos hk
  have hnew : o' W'.heap.size = .roots true := by rw [ho']; simp only [if_neg (show ¬ W'.heap.size < w.heap.size by omega), if_true]
  have hlo : ∀ k, o' k ≠ .other → W2.heap.size ≤ k := fun k hk => by
    rw [ho'] at hk
    by_cases h1 : k < w.heap.size
    · simp only [h1, if_true] at hk
      exact h.m.lo k hk
    · omega
  have hOA : ∀ k, (Value.slice AO σ.outs.length cO).ownBlock = some k → o' k = .roots true ∧ k ≠ Q ∧ k < w.heap.size := fun k hk => by
    obtain ⟨ad, e1, rfl⟩ := block_iff hk
    have h3 := (own_block h.row ad.block (by rw [e1]; rfl)).2
    exact ⟨by rw [hext _ h3]; exact (h.oA ad e1).1, (h.oA ad e1).2, h3⟩
  have hoQ : o' Q = .roots true := by rw [hext _ hQlt]; exact h.oQ
  have m1 : Mod (fun k => some k = (Value.slice AO σ.outs.length cO).ownBlock) W' w4 := Mod.of_grown hg
  have r1 := ((h.m.retag hext hlo).below hb).outer m1 (fun k _ e => (hOA k e.symm).1)
  have q1 : Blk w4 Q _ _ := (h.q.below hb hQlt).mod m1 (fun e => (hOA Q e.symm).2.1 rfl)
  have hA4 : ∀ ad, A4 = some ad → o' ad.block = .roots true ∧ ad.block ≠ Q := fun ad e1 => by
    subst e1
    rcases hat with e2 | e2
    · have := hOA ad.block e2.symm
      exact ⟨this.1, this.2.1⟩
    · have e3 : ad.block = W'.heap.size := by injection e2
      rw [e3]
      exact ⟨hnew, by omega⟩
  refine ⟨⟨o', A4, c4, rfl, ?_⟩, q1⟩
  have m2 : Mod (fun k => k = Q) w4 (w4.setCell ⟨Q, 3, none⟩ (.slice A4 (σ.outs.length + 1) c4)) := mod_set' (S := fun k => k = Q) (Mod.refl _ _) rfl _
  have hlen : (σ.outs ++ [v]).length = σ.outs.length + 1 := by simp
  have hQ2 := h.hi
  have r2 := r1.outer m2 (fun k _ e => by rw [e]; exact hoQ)
  refine ⟨r2.pc σ.pc (σ.outs ++ [v]), ?_, ?_, hoQ, ?_, hA4⟩
  · refine Below.setCell ?_ hQ2 _
    refine (h.below.trans (hb.mono hBw)).grown hg (by omega) (fun k e => ?_)
    exact hlo k (by rw [(hOA k e).1]; exact fun h => by cases h)
  · have := q1.set_ 3 (.slice A4 (σ.outs.length + 1) c4)
    show Blk _ Q _ #[_, _, _, .slice A4 (σ.outs ++ [v]).length c4]
    rw [hlen]
    exact this
  · show World.ownsRow _ 0 _ 1 (.slice A4 (σ.outs ++ [v]).length c4) (σ.outs ++ [v]).length (enc ic (σ.outs ++ [v]))
    rw [hlen, enc_append]
    refine own_far hown (fun e => ?_) _
    obtain ⟨ad, e1, e2⟩ := block_iff e
    exact (hA4 ad e1).2 e2
end
end Go.Proofs.YteminkohgagedaaGreat.Rf
