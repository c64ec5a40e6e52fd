/- A program is run, with Peak's closure behind each instruction. -/
import Derived.Test.YteminkohgagedaaGreatQMoPeak1
namespace Go.Proofs.YteminkohgagedaaGreat.Mo
open Go.RowKit Go.Proofs.YteminkohgagedaaGreat.Base Go.Proofs.YteminkohgagedaaGreat.Gr Go.Proofs.YteminkohgagedaaGreat.Ver
set_option linter.unusedVariables false
set_option linter.unusedSimpArgs false

/-- The most cells at once, from here on. -/
def peakGo (l : List Ins) : Nat → St → Nat → Nat
  | 0, _, m => m
  | n + 1, σ, m =>
    if σ.pc < l.length then
      if (insAt l σ.pc).op = 0 then m
      else if (step (insAt l σ.pc) { σ with pc := σ.pc + 1 }).1 = 0 then peakGo l n (step (insAt l σ.pc) { σ with pc := σ.pc + 1 }).2 (max m (reach (step (insAt l σ.pc) { σ with pc := σ.pc + 1 }).2.now (step (insAt l σ.pc) { σ with pc := σ.pc + 1 }).2.refs))
      else max m (reach (step (insAt l σ.pc) { σ with pc := σ.pc + 1 }).2.now (step (insAt l σ.pc) { σ with pc := σ.pc + 1 }).2.refs)
    else m
theorem peak_out {l : List Ins} {n m : Nat} {σ : St} (h : ¬ σ.pc < l.length) : peakGo l n σ m = m := by
  cases n with
  | zero => rw [peakGo]
  | succ n => rw [peakGo, if_neg h]
theorem peak_halt {l : List Ins} {n m : Nat} {σ : St} (h : σ.pc < l.length) (h0 : (insAt l σ.pc).op = 0) : peakGo l (n + 1) σ m = m := by rw [peakGo, if_pos h, if_pos h0]
theorem peak_go {l : List Ins} {n m : Nat} {σ : St} (h : σ.pc < l.length) (h0 : (insAt l σ.pc).op ≠ 0) (h1 : (step (insAt l σ.pc) { σ with pc := σ.pc + 1 }).1 = 0) : peakGo l (n + 1) σ m = peakGo l n (step (insAt l σ.pc) { σ with pc := σ.pc + 1 }).2 (max m (reach (step (insAt l σ.pc) { σ with pc := σ.pc + 1 }).2.now (step (insAt l σ.pc) { σ with pc := σ.pc + 1 }).2.refs)) := by rw [peakGo, if_pos h, if_neg h0, if_pos h1]
theorem peak_err {l : List Ins} {n m : Nat} {σ : St} (h : σ.pc < l.length) (h0 : (insAt l σ.pc).op ≠ 0) (h1 : (step (insAt l σ.pc) { σ with pc := σ.pc + 1 }).1 ≠ 0) : peakGo l (n + 1) σ m = max m (reach (step (insAt l σ.pc) { σ with pc := σ.pc + 1 }).2.now (step (insAt l σ.pc) { σ with pc := σ.pc + 1 }).2.refs) := by rw [peakGo, if_pos h, if_neg h0, if_neg h1]

/-- What holds ahead of each round: gl is the fuel left, most the most cells so far. -/
structure RoundP (w wr : World) (o0 o : Nat → Tag) (B hp pv pd rp rb nb z F : Nat) (AO : Option Addr) (cO : Nat) (gl : Nat) (σ : St) (pm pq pw most : Nat) : Prop where
  run : RM wr o B hp rp rb nb AO cO σ
  fuel : Blk wr z 3 #[.int .i64 (F : Int)]
  res : Blk wr (z + 1) 42 #[.int .i64 0, .int .i64 0, .int .i64 0, .slice none 0 0]
  var : Blk wr pv 107 #[.pointer (some ⟨rp, 0, none⟩)]
  done : Blk wr pd 3 #[.int .i64 ((F : Int) - (gl : Int))]
  c0 : Calm o rp rb nb AO z
  c1 : Calm o rp rb nb AO (z + 1)
  cv : Calm o rp rb nb AO pv
  cd : Calm o rp rb nb AO pd
  well : Well (1000 + (F - gl)) σ
  le : gl ≤ F
  mod : Mod (fun k => o0 k ≠ .other ∨ k = pm) w wr
  ext : ∀ k, k < w.heap.size → o k = o0 k
  out : ∀ k, blkOf AO = some k → w.heap.size ≤ k
  lrp : w.heap.size ≤ rp
  lrb : w.heap.size ≤ rb
  lnb : w.heap.size ≤ nb
  lz : w.heap.size ≤ z
  lpv : z + 2 ≤ pv
  lpd : z + 2 ≤ pd
  npd : pd ≠ rp ∧ pd ≠ pv
  hm : Blk wr pm 3 #[.int .i64 (most : Int)]
  hq : Blk wr pq 64 #[.pointer (some ⟨hp, 0, none⟩)]
  hw : Blk wr pw 75 #[.nilFunc, .func (.func 34) #[] #[.pointer (some ⟨pm, 0, none⟩), .pointer (some ⟨pq, 0, none⟩)]]
  om : o0 pm = .other
  oq : o0 pq = .other
  ow : o0 pw = .other
  lpm : pm < w.heap.size
  lpq : pq < w.heap.size
  lpw : pw < w.heap.size
  bm : B ≤ pm
  nq : pq ≠ pm
  nw : pw ≠ pm
section
variable {w wr w2 : World} {o0 o o2 : Nat → Tag} {B hp pv pd rp rb nb z F : Nat} {AO A2 : Option Addr} {cO c2 : Nat} {l : List Ins} {gl : Nat} {σ σ2 : St} {pm pq pw most : Nat}
theorem RoundP.old (h : RoundP w wr o0 o B hp pv pd rp rb nb z F AO cO gl σ pm pq pw most) {k : Nat} (hk : k < w.heap.size) (ho : o0 k = .other) : Calm o rp rb nb AO k := fun e => by
  have := h.lrp; have := h.lrb; have := h.lnb
  rcases e with e | e | e | e | e
  · exact e ((h.ext k hk).trans ho)
  · omega
  · omega
  · omega
  · have := h.out k e; omega
/-- The program's own blocks have turned. -/
theorem RoundP.turn (h : RoundP w wr o0 o B hp pv pd rp rb nb z F AO cO gl σ pm pq pw most) (hr : RM w2 o2 B hp rp rb nb A2 c2 σ2) (ht : RTurn wr w2 o o2 rp rb nb AO A2) (hw : Well (1000 + (F - gl)) σ2) : RoundP w w2 o0 o2 B hp pv pd rp rb nb z F A2 c2 gl σ2 pm pq pw most := by
  have hm0 := h.mod.size
  refine ⟨hr, h.fuel.mod ht.mod h.c0, h.res.mod ht.mod h.c1, h.var.mod ht.mod h.cv, h.done.mod ht.mod h.cd, h.c0.turn h.fuel.lt ht, h.c1.turn h.res.lt ht, h.cv.turn h.var.lt ht, h.cd.turn h.done.lt ht, hw, h.le, Mod.trans h.mod ht.mod (fun k hk e => ?_), fun k hk => (ht.ext k (by omega)).trans (h.ext k hk), fun k e => ?_, h.lrp, h.lrb, h.lnb, h.lz, h.lpv, h.lpd, h.npd, h.hm.mod ht.mod (h.old h.lpm h.om), h.hq.mod ht.mod (h.old h.lpq h.oq), h.hw.mod ht.mod (h.old h.lpw h.ow), h.om, h.oq, h.ow, h.lpm, h.lpq, h.lpw, h.bm, h.nq, h.nw⟩
  · have := h.lrp; have := h.lrb; have := h.lnb
    rcases e with e | e | e | e | e
    · rw [h.ext k hk] at e; exact .inl e
    · omega
    · omega
    · omega
    · have := h.out k e; omega
  · rcases Nat.lt_or_ge k wr.heap.size with h1 | h1
    · exact h.out k (ht.out k h1 e)
    · omega
theorem RoundP.low (h : RoundP w wr o0 o B hp pv pd rp rb nb z F AO cO gl σ pm pq pw most) (hlo : ∀ k, k < B → o0 k = .other) (hB : B ≤ w.heap.size) : Below B w wr :=
  ⟨h.mod.os, h.mod.tape, h.mod.output, h.mod.size, fun k hk => h.mod.block k (by omega) (fun e => by
    have := h.bm
    rcases e with e | e
    · exact e (hlo k hk)
    · omega)⟩
/-- One instruction more is done, the next one stands behind it. -/
theorem RoundP.tick (h : RoundP w wr o0 o B hp pv pd rp rb nb z F AO cO (gl + 1) σ pm pq pw most) (k : Nat) : RoundP w ((wr.setCell ⟨pd, 0, none⟩ (.int .i64 ((F : Int) - (gl : Int)))).setCell ⟨rp, 3, none⟩ (.int .i64 (k : Int))) o0 o B hp pv pd rp rb nb z F AO cO gl { σ with pc := k } pm pq pw most := by
  have hd := h.cd.parts
  have hv := h.cv.parts
  have h0 := h.c0.parts
  have h1 := h.c1.parts
  have hle := h.le
  have hlpd := h.lpd
  have hsz := h.mod.size
  have hlz := h.lz
  have hlrp := h.lrp
  have hnpd := h.npd
  have hpm := h.lpm
  have hpq := h.lpq
  have hpw := h.lpw
  have hr : RM (wr.setCell ⟨pd, 0, none⟩ (.int .i64 ((F : Int) - (gl : Int)))) o B hp rp rb nb AO cO σ := by
    have q := h.run
    exact ⟨q.heap.cellO hd.1 _ _, q.blk.far (p := ⟨pd, 0, none⟩) (Ne.symm hd.2.1) _, q.refs.far (p := ⟨pd, 0, none⟩) (Ne.symm hd.2.2.1) _, q.nums.far (p := ⟨pd, 0, none⟩) (Ne.symm hd.2.2.2.1) _, own_far q.outs (p := ⟨pd, 0, none⟩) (fun e => hd.2.2.2.2 (own_of_blk e)) _, q.orp, q.orb, q.onb, q.oO, q.ne, q.lrp, q.lrb, q.lnb⟩
  refine ⟨hr.pc k, (h.fuel.far (p := ⟨pd, 0, none⟩) (by show z ≠ pd; omega) _).far (p := ⟨rp, 3, none⟩) h0.2.1 _, (h.res.far (p := ⟨pd, 0, none⟩) (by show z + 1 ≠ pd; omega) _).far (p := ⟨rp, 3, none⟩) h1.2.1 _, (h.var.far (p := ⟨pd, 0, none⟩) (Ne.symm hnpd.2) _).far (p := ⟨rp, 3, none⟩) hv.2.1 _, ?_, h.c0, h.c1, h.cv, h.cd, ?_, by omega, ?_, h.ext, h.out, h.lrp, h.lrb, h.lnb, h.lz, h.lpv, h.lpd, h.npd, (h.hm.far (p := ⟨pd, 0, none⟩) (by show pm ≠ pd; omega) _).far (p := ⟨rp, 3, none⟩) (by show pm ≠ rp; omega) _, (h.hq.far (p := ⟨pd, 0, none⟩) (by show pq ≠ pd; omega) _).far (p := ⟨rp, 3, none⟩) (by show pq ≠ rp; omega) _, (h.hw.far (p := ⟨pd, 0, none⟩) (by show pw ≠ pd; omega) _).far (p := ⟨rp, 3, none⟩) (by show pw ≠ rp; omega) _, h.om, h.oq, h.ow, h.lpm, h.lpq, h.lpw, h.bm, h.nq, h.nw⟩
  · exact (h.done.set_ 0 (.int .i64 ((F : Int) - (gl : Int)))).far (p := ⟨rp, 3, none⟩) hd.2.1 _
  · exact (h.well.more (by omega)).pc k
  · exact mod_set (mod_set h.mod (by show _ ≤ pd; omega) _) (by show _ ≤ rp; omega) _
/-- The run is over. -/
theorem RoundP.over (h : RoundP w wr o0 o B hp pv pd rp rb nb z F AO cO gl σ pm pq pw most) (hb : Below wr.heap.size wr w2) (v0 v1 v2 v3 : Value) :
    Blk ((((w2.setCell ⟨z + 1, 0, none⟩ v0).setCell ⟨z + 1, 1, none⟩ v1).setCell ⟨z + 1, 2, none⟩ v2).setCell ⟨z + 1, 3, none⟩ v3) pm 3 #[.int .i64 (most : Int)] ∧
    Mod (fun k => o0 k ≠ .other ∨ k = pm) w ((((w2.setCell ⟨z + 1, 0, none⟩ v0).setCell ⟨z + 1, 1, none⟩ v1).setCell ⟨z + 1, 2, none⟩ v2).setCell ⟨z + 1, 3, none⟩ v3) ∧
    Blk ((((w2.setCell ⟨z + 1, 0, none⟩ v0).setCell ⟨z + 1, 1, none⟩ v1).setCell ⟨z + 1, 2, none⟩ v2).setCell ⟨z + 1, 3, none⟩ v3) (z + 1) 42 #[v0, v1, v2, v3] := by
  have hlz := h.lz
  have hpm := h.lpm
  refine ⟨((((h.hm.below hb h.hm.lt).far (p := ⟨z + 1, 0, none⟩) (by show pm ≠ z + 1; omega) _).far (p := ⟨z + 1, 1, none⟩) (by show pm ≠ z + 1; omega) _).far (p := ⟨z + 1, 2, none⟩) (by show pm ≠ z + 1; omega) _).far (p := ⟨z + 1, 3, none⟩) (by show pm ≠ z + 1; omega) _, ?_, ((((h.res.below hb h.res.lt).set_ 0 v0).set_ 1 v1).set_ 2 v2).set_ 3 v3⟩
  have hm : Mod (fun k => o0 k ≠ .other ∨ k = pm) w w2 := Mod.trans h.mod (Mod.of_below (S := fun _ => False) hb) (fun _ _ h => h.elim)
  exact mod_set (mod_set (mod_set (mod_set hm (by show _ ≤ z + 1; omega) _) (by show _ ≤ z + 1; omega) _) (by show _ ≤ z + 1; omega) _) (by show _ ≤ z + 1; omega) _
/-- What is done behind an instruction. -/
theorem RoundP.behind (h : RoundP w wr o0 o B hp pv pd rp rb nb z F AO cO gl σ pm pq pw most) (hF : F ≤ 50000) :
    Calls Tryz.prog 34 #[.slice (some ⟨rb, 0, none⟩) 4 4, .pointer (some ⟨pm, 0, none⟩), .pointer (some ⟨pq, 0, none⟩)] wr.drew fun e w' => e = .returned (.tuple #[]) ∧ RoundP w w' o0 o B hp pv pd rp rb nb z F AO cO gl σ pm pq pw (max most (reach σ.now σ.refs)) := by
  have hb : Below wr.heap.size wr wr.drew := below_drewN (Below.refl _ _) 1
  have hr := h.run.below hb
  have hi : Ints wr.drew (some ⟨rb, 0, none⟩) σ.refs := ints_blk hr.refs (by rw [h.well.refs]; omega)
  have K := peak1_any most hr.heap h.well.now (show 1000 + (F - gl) ≤ 90000 by omega) (some ⟨rb, 0, none⟩) σ.refs 4 hi h.well.refsN (by rw [h.well.refs]; omega) (h.hm.below hb h.hm.lt) (h.hq.below hb h.hq.lt)
  rw [h.well.refs] at K
  refine K.mono ?_
  rintro e w' ⟨rfl, hB, hM'⟩
  have hM : Mod (fun k => k = pm) wr w' := Mod.trans (Mod.of_below hb) hM' (fun _ _ e => e)
  have cm := h.old h.lpm h.om
  have cp := cm.parts
  have hlz := h.lz
  have hpm := h.lpm
  have hlpv := h.lpv
  have hlpd := h.lpd
  have l1 := h.lrp
  have l2 := h.lrb
  have l3 := h.lnb
  have hbs : B ≤ wr.heap.size := by have := h.bm; have := h.mod.size; omega
  have q := h.run
  refine ⟨rfl, ⟨⟨q.heap.keep hM (fun k _ e => by rw [e]; exact cp.1) (fun _ _ => rfl) (fun k hk _ _ => by omega), q.blk.mod hM (by show rp ≠ pm; omega), q.refs.mod hM (by show rb ≠ pm; omega), q.nums.mod hM (by show nb ≠ pm; omega), own_mod q.outs hM (fun k hk e => cp.2.2.2.2 (by rw [← e]; exact own_of_blk hk)), q.orp, q.orb, q.onb, q.oO, q.ne, q.lrp, q.lrb, q.lnb⟩, h.fuel.mod hM (by show z ≠ pm; omega), h.res.mod hM (by show z + 1 ≠ pm; omega), h.var.mod hM (by show pv ≠ pm; omega), h.done.mod hM (by show pd ≠ pm; omega), h.c0, h.c1, h.cv, h.cd, h.well, h.le, Mod.trans h.mod hM (fun k _ e => .inr e), h.ext, h.out, h.lrp, h.lrb, h.lnb, h.lz, h.lpv, h.lpd, h.npd, hB, h.hq.mod hM h.nq, h.hw.mod hM h.nw, h.om, h.oq, h.ow, h.lpm, h.lpq, h.lpw, h.bm, h.nq, h.nw⟩⟩
end

set_option maxRecDepth 100000 in
set_option maxHeartbeats 8000000 in
theorem exec_peak {w : World} {o : Nat → Tag} {B hp F : Nat} {now last : Gr} (pm pq pw most : Nat) (hm : HM w o B hp now last) (hF : F ≤ 50000) (hw : Well 1000 (start now last)) (AL : Option Addr) (l : List Ins) (cl : Nat) (hA : ∀ w', Below B w w' → Arr w' Ins.cells 4 AL l) (hl : ∀ x ∈ l, x.ok l.length = true) (hll : l.length ≤ 200)
    (hpm : Blk w pm 3 #[.int .i64 (most : Int)]) (hpq : Blk w pq 64 #[.pointer (some ⟨hp, 0, none⟩)]) (hpw : Blk w pw 75 #[.nilFunc, .func (.func 34) #[] #[.pointer (some ⟨pm, 0, none⟩), .pointer (some ⟨pq, 0, none⟩)]]) (om : o pm = .other) (oq : o pq = .other) (ow : o pw = .other) (bm : B ≤ pm) :
    Calls Tryz.prog 28 #[.iface 64 (.pointer (some ⟨hp, 0, none⟩)), .int .i64 (F : Int), .slice AL l.length cl, .pointer (some ⟨pw, 0, none⟩)] w fun e w' =>
      ∃ v, e = .returned v ∧ Blk w' pm 3 #[.int .i64 ((peakGo l F (start now last) most : Nat) : Int)] ∧ Mod (fun k => o k ≠ .other ∨ k = pm) w w' := by
  suffices hh : Calls Tryz.prog 28 #[.iface 64 (.pointer (some ⟨hp, 0, none⟩)), .int .i64 (F : Int), .slice AL l.length cl, .pointer (some ⟨pw, 0, none⟩)] w fun e w' =>
      ∃ v, e = .returned v ∧ Blk w' pm 3 #[.int .i64 ((peakGo l F (start now last) most : Nat) : Int)] ∧ Mod (fun k => norm w.heap.size o k ≠ .other ∨ k = pm) w w' from
    hh.mono fun e w' ⟨v, q1, q2, q4⟩ => ⟨v, q1, q2, ⟨q4.os, q4.tape, q4.output, q4.size, fun k hk hn => q4.block k hk (fun e => hn (by rw [norm_lt hk] at e; exact e))⟩⟩
  have zpm := hpm.lt
  have zpq := hpq.lt
  have zpw := hpw.lt
  rw [← norm_lt (o := o) zpm] at om
  rw [← norm_lt (o := o) zpq] at oq
  rw [← norm_lt (o := o) zpw] at ow
  have nq : pq ≠ pm := Base.Blk.ne_ hpq hpm (by decide)
  have nw : pw ≠ pm := Base.Blk.ne_ hpw hpm (by decide)
  have HPB := Lib.hid (And.intro hpm (And.intro hpq hpw))
  have HPO := Lib.hid (And.intro om (And.intro oq (And.intro ow (And.intro bm (And.intro nq nw)))))
  clear hpm hpq hpw
  replace hm : HM w (norm w.heap.size o) B hp now last := hm.keep (Mod.refl (fun _ => False) w) (fun _ _ h => h.elim) (fun k hk => norm_lt hk) (fun k hk hk' _ => by omega)
  have ho : ∀ k, w.heap.size ≤ k → norm w.heap.size o k = .other := fun k hk => norm_ge hk
  generalize norm w.heap.size o = o at hm ho om oq ow HPO ⊢
  clear om oq ow bm nq nw
  obtain ⟨R, hR⟩ : ∃ R, peakGo l F (start now last) most = R := ⟨_, rfl⟩
  rw [hR]
  have HR := Lib.hid hR
  have HM0 := Lib.hid hm
  have HO := Lib.hid ho
  have HW := Lib.hid hw
  have HA := Lib.hid hA
  have HL := Lib.hid hl
  have hq1 : ∀ w : World, (binOp .neq 73 .nilFunc .nilFunc).run Tryz.prog w = .ok (.bool false) w := fun w => by kernel_rfl
  have hq2 : ∀ (w : World) (f : Fn) (a b : Array Value), (binOp .neq 46 (.func f a b) .nilFunc).run Tryz.prog w = .ok (.bool true) w := fun w f a b => by kernel_rfl
  have hmk : ∀ w : World, (Instr.makeSlice 22 (.int .i64 4) (.int .i64 4)).run Tryz.prog w = .ok (.slice (some ⟨w.heap.size, 0, none⟩) 4 4) (w.alloc (.cells #[.int .i64 0, .int .i64 0, .int .i64 0, .int .i64 0] 3)) := make_ints 4 (by omega)
  clear hR hm ho hw hA hl
  go_enter Tryz.func28, Tryz.ntmps28
  go_upto_region 1 with fail
  go_cut [10] (fun u wx => ∃ pv rp rb nb, u = .pointer (some ⟨pv, 0, none⟩) ∧ Hid (Laid_ w wx o B hp pv rp rb nb w.heap.size F now last))
  case first =>
    go_region
    all_goals
      go_wp2_with fail
      go_meet
      refine ⟨_, ?_, ?_, ?_, rfl, laid_of HM0.out HO.out (like_drew (like_self _)) (six w _ _ _ _ _ _).2.2.2.2.2.2 (six w _ _ _ _ _ _).1 (six w _ _ _ _ _ _).2.1 ?_ ?_ ?_ ?_ ?_ ?_ ?_ ?_ ?_⟩
      rotate_left 3
      · (first | exact (six w _ _ _ _ _ _).2.2.1 | exact (six w _ _ _ _ _ _).2.2.2.1 | exact (six w _ _ _ _ _ _).2.2.2.2.1 | exact (six w _ _ _ _ _ _).2.2.2.2.2.1)
      · (first | exact (six w _ _ _ _ _ _).2.2.1 | exact (six w _ _ _ _ _ _).2.2.2.1 | exact (six w _ _ _ _ _ _).2.2.2.2.1 | exact (six w _ _ _ _ _ _).2.2.2.2.2.1)
      · (first | exact (six w _ _ _ _ _ _).2.2.1 | exact (six w _ _ _ _ _ _).2.2.2.1 | exact (six w _ _ _ _ _ _).2.2.2.2.1 | exact (six w _ _ _ _ _ _).2.2.2.2.2.1)
      · (first | exact (six w _ _ _ _ _ _).2.2.1 | exact (six w _ _ _ _ _ _).2.2.2.1 | exact (six w _ _ _ _ _ _).2.2.2.2.1 | exact (six w _ _ _ _ _ _).2.2.2.2.2.1)
      all_goals omega
  case rest =>
    obtain ⟨pv, rp, rb, nb, rfl, HLD⟩ := hcut
    have zc := HLD.out.below.size
    have hfr : RoundP w (wc.alloc (.cells #[.int .i64 0] 3)) o o B hp pv wc.heap.size rp rb nb w.heap.size F none 0 F (start now last) pm pq pw most := by
      have q := HLD.out
      have hb := below_1 wc (.cells #[.int .i64 0] 3)
      have hvl := q.var.lt
      have hrl := q.run.blk.lt
      have hrbl := q.run.refs.lt
      have hnbl := q.run.nums.lt
      have hrs := q.rest
      have hcalm : ∀ k, w.heap.size ≤ k → k ≠ rp → k ≠ rb → k ≠ nb → Calm o rp rb nb none k := fun k h1 h2 h3 h4 e => by
        rcases e with e | e | e | e | e
        · exact e (hrs k h1)
        · exact h2 e
        · exact h3 e
        · exact h4 e
        · cases e
      have l1 := q.lpv
      have l2 := q.lrp
      have l3 := q.lrb
      have l4 := q.lnb
      have hvr : pv ≠ rp := Base.Blk.ne_ q.var q.run.blk (by decide)
      have hvb : pv ≠ rb := Base.Blk.ne_ q.var q.run.refs (by decide)
      have hvn : pv ≠ nb := Base.Blk.ne_ q.var q.run.nums (by decide)
      refine ⟨q.run.below hb, q.fuel.alloc _, q.res.alloc _, q.var.alloc _, ?_, hcalm _ (by omega) (by omega) (by omega) (by omega), hcalm _ (by omega) (by omega) (by omega) (by omega), hcalm _ (by omega) hvr hvb hvn, hcalm _ (by omega) (by omega) (by omega) (by omega), ?_, Nat.le_refl _, Mod.of_below (below_then q.below hb), fun _ _ => rfl, (fun k e => by cases e), by omega, by omega, by omega, Nat.le_refl _, by omega, ?_, ?_, HPB.out.1.below (below_then q.below hb) zpm, HPB.out.2.1.below (below_then q.below hb) zpq, HPB.out.2.2.below (below_then q.below hb) zpw, HPO.out.1, HPO.out.2.1, HPO.out.2.2.1, zpm, zpq, zpw, HPO.out.2.2.2.1, HPO.out.2.2.2.2.1, HPO.out.2.2.2.2.2⟩
      · have := Blk.new wc 3 #[.int .i64 0]
        rwa [Int.sub_self]
      · have := HW.out; exact this.more (by omega)
      · have := q.lpv; omega
      · exact ⟨by omega, by omega⟩
    have HFR := Lib.hid hfr
    have HLO : Hid (B ≤ w.heap.size ∧ ∀ k, k < B → o k = .other) := by
      obtain ⟨_, _, _, _, _, _, _, _, _, _, h⟩ := HM0.out
      refine ⟨h.base, fun k hk => ?_⟩
      cases e : o k with
      | other => rfl
      | _ =>
        have hb := h.base
        have := h.lo k (by omega) (by rw [e]; exact fun h => by cases h)
        omega
    clear hfr zc
    go_wp2_with fail
    go_loopg [] F (fun gl wr => ∃ (o' : Nat → Tag) (AO : Option Addr) (cO : Nat) (σ : St) (m : Nat), Hid (RoundP w wr o o' B hp pv wc.heap.size rp rb nb w.heap.size F AO cO gl σ pm pq pw m) ∧ Hid (peakGo l gl σ m = R))
    case atStart => exact ⟨o, none, 0, start now last, most, HFR, HR⟩
    case round =>
      obtain ⟨o', AO, cO, σ, m, HRD, HEX⟩ := hrel
      have hle := HRD.out.le
      obtain ⟨c0, c1, c2, c3, c4⟩ := HRD.out.run.cells
      have x0 := HRD.out.fuel.cell 0
      have x1 := HRD.out.var.cell 0
      have x2 := HRD.out.done.cell 0
      have x3 := HRD.out.done.frozen 0
      have x4 := HRD.out.run.blk.frozen 3
      have z0 := HRD.out.fuel.lt
      have z1 := HRD.out.var.lt
      have z2 := HRD.out.done.lt
      have z3 := HRD.out.run.blk.lt
      have p5 := HRD.out.hw.cell 0
      have p7 := HRD.out.hw.lt
      have n1 := HRD.out.npd.1
      have n2 : rp ≠ wc.heap.size := Ne.symm n1
      have n3 := HRD.out.npd.2
      have n4 : pv ≠ wc.heap.size := Ne.symm n3
      have n5 := HRD.out.cv.parts.2.1
      simp only [List.getElem?_toArray, List.getElem?_cons_zero, List.getElem?_cons_succ] at x0 x1 x2 p5
      have hpc0 : (0 : Int) ≤ (σ.pc : Int) := by omega
      by_cases hlt : σ.pc < l.length
      · cases gk with
        | zero =>
          have HE := Lib.hid (show m = R from HEX.out)
          have x2' : wr.cell? ⟨wc.heap.size, 0, none⟩ = some (.int .i64 (F : Int)) := by rw [x2]; simp
          have KE := Lib.hid (ends_q 0 (by omega) (e := 11) (at_ := (σ.pc : Int)) x0 x2' x1 c4 (by omega) (by omega))
          clear x2
          go_wp2_with (first | (go_at_call 76; refine KE.out.mono ?_; rintro e w2 ⟨rfl, hb2⟩; have hq := HRD.out.res.below hb2 HRD.out.res.lt; have y0 := hq.cell 0; have y1 := hq.cell 1; have y2 := hq.cell 2; have y3 := hq.cell 3; have g0 := hq.frozen 0; have g1 := hq.frozen 1; have g2 := hq.frozen 2; have g3 := hq.frozen 3; have g4 := hq.lt; simp only [List.getElem?_toArray, List.getElem?_cons_zero, List.getElem?_cons_succ] at y0 y1 y2 y3; have HB2 := Lib.hid hb2; clear hb2 hq))
          have HOV := Lib.hid (HRD.out.over HB2.out (.int .i64 11) (.int .i64 (σ.pc : Int)) (.int .i64 0) (.slice AO σ.outs.length cO))
          refine bodyPost_ret (results_row_tmp rfl _ _ (w.heap.size + 1) 42 #[.int .i64 11, .int .i64 (σ.pc : Int), .int .i64 0, .slice AO σ.outs.length cO] (0, 0) _ rfl HOV.out.2.2 Tryz.underlying42 rfl resSize) rfl ?_
          obtain rfl := HE.out
          exact ⟨_, rfl, HOV.out.1, HOV.out.2.1⟩
        | succ n =>
          obtain ⟨D, hD⟩ : ∃ D : Int, (F : Int) - ((n + 1 : Nat) : Int) = D := ⟨_, rfl⟩
          have HTK := Lib.hid (HRD.out.tick (σ.pc + 1))
          have HDD := Lib.hid hD
          rw [show (F : Int) - (n : Int) = D + 1 by omega, show (((σ.pc + 1 : Nat)) : Int) = (σ.pc : Int) + 1 by omega] at HTK
          rw [hD] at x2
          have hDF : (D == (F : Int)) = false := beq_eq_false_iff_ne.mpr (by omega)
          have hD0 : 0 ≤ D := by omega
          have hD1 : D ≤ 50000 := by omega
          have hpl : σ.pc ≤ 200 := by omega
          have HAT := Lib.hid (HA.out _ (HTK.out.low HLO.out.2 HLO.out.1))
          obtain ⟨ad, rfl, k0, k1, k2, k3⟩ := codes_at HAT.out σ.pc hlt
          have hltI : (σ.pc : Int) < l.length := by omega
          clear hD
          go_upto_region 15 with fail
          generalize hWT : ((wr.setCell ⟨wc.heap.size, 0, none⟩ (.int .i64 (D + 1))).setCell ⟨rp, 3, none⟩ (.int .i64 ((σ.pc : Int) + 1))) = wt at HTK HAT k0 k1 k2 k3 ⊢
          have HX := Lib.hid (insAt_eq hlt)
          have hok := insAt_ok HL.out hlt
          rw [HX.out] at hok
          generalize l[σ.pc] = x at k0 k1 k2 k3 HX hok
          have q0 := HTK.out.fuel.cell 0
          have q1 := HTK.out.var.cell 0
          have q2 := HTK.out.done.cell 0
          have q4 := HTK.out.run.cells.2.2.2.2
          simp only [List.getElem?_toArray, List.getElem?_cons_zero, List.getElem?_cons_succ] at q0 q1 q2
          rw [show (F : Int) - (n : Int) = D + 1 by have := HDD.out; omega] at q2
          have hDn : (F : Int) - (D + 1) = (n : Int) := by have := HDD.out; omega
          have hD2 : D + 1 ≤ (F : Int) := by omega
          clear x0 x1 x2 x3 x4 c0 c1 c2 c3 c4 z0 z1 z2 z3 n1 n2 n3 n4 n5 p5 p7
          by_cases hx0 : x.op = 0
          · have HE := Lib.hid ((peak_halt (n := n) hlt (by rw [HX.out]; exact hx0)).symm.trans HEX.out)
            have KE := Lib.hid (ends_q (n : Int) hDn (e := 0) (at_ := (σ.pc : Int)) q0 q2 q1 q4 (by omega) (by omega))
            rw [hx0] at k0
            clear hDn
            go_wp2_with (first | (go_at_call 76; refine KE.out.mono ?_; rintro e w2 ⟨rfl, hb2⟩; have hq := HTK.out.res.below hb2 HTK.out.res.lt; have y0 := hq.cell 0; have y1 := hq.cell 1; have y2 := hq.cell 2; have y3 := hq.cell 3; have g0 := hq.frozen 0; have g1 := hq.frozen 1; have g2 := hq.frozen 2; have g3 := hq.frozen 3; have g4 := hq.lt; simp only [List.getElem?_toArray, List.getElem?_cons_zero, List.getElem?_cons_succ] at y0 y1 y2 y3; have HB2 := Lib.hid hb2; clear hb2 hq))
            have HOV := Lib.hid (HTK.out.over HB2.out (.int .i64 0) (.int .i64 (σ.pc : Int)) (.int .i64 (n : Int)) (.slice AO σ.outs.length cO))
            refine bodyPost_ret (results_row_tmp rfl _ _ (w.heap.size + 1) 42 #[.int .i64 0, .int .i64 (σ.pc : Int), .int .i64 (n : Int), .slice AO σ.outs.length cO] (0, 0) _ rfl HOV.out.2.2 Tryz.underlying42 rfl resSize) rfl ?_
            obtain rfl := HE.out
            exact ⟨_, rfl, HOV.out.1, HOV.out.2.1⟩
          · have hxb : (x.op == 0) = false := beq_eq_false_iff_ne.mpr hx0
            have hNw : 1000 + (F - n) ≤ 100000 := by omega
            have WL := step_well hok (HRD.out.well.pc (σ.pc + 1))
            have HGO := Lib.hid (fun h1 => (peak_go (n := n) hlt (by rw [HX.out]; exact hx0) h1).symm.trans HEX.out)
            have HER := Lib.hid (fun h1 => (peak_err (n := n) hlt (by rw [HX.out]; exact hx0) h1).symm.trans HEX.out)
            rw [HX.out] at HGO HER
            have KD := (do_any (HTK.out.run.below (below_drewN (Below.refl _ _) 1)) _ hNw HTK.out.well x l.length hok hx0).mono (fun e w2 pst => (show e = _ ∧ After wt o' B hp rp rb nb AO _ w2 from ⟨pst.1, pst.2.from_ (below_drewN (Below.refl _ _) 1)⟩))
            generalize hst2 : (step x { σ with pc := σ.pc + 1 }).2 = σ2 at KD WL HGO HER
            generalize hst1 : (step x { σ with pc := σ.pc + 1 }).1 = e2 at KD HGO HER
            have HWL := Lib.hid (WL.more (show _ ≤ 1000 + (F - n) by omega))
            have HKD := Lib.hid KD
            obtain ⟨xop, xa, xb, xc⟩ := x
            dsimp only at k0 k1 k2 k3 hxb HKD
            clear KD WL hst1 hst2 hok hx0
            clear q2 q4 hDn
            cases he2 : decide (e2 = 0) with
            | true =>
              have he : e2 = 0 := of_decide_eq_true he2
              have HG := Lib.hid (HGO.out he)
              subst he
              clear he2
              go_wp2_with fail
              refine wp_region_still_tail 5 (by kernel_rfl) (by kernel_rfl) ?_
              change wpStill _ _ (World.drew _) _ _ _
              simp only [List.take_succ_cons, List.take_zero, List.drop_succ_cons, List.drop_zero]
              repeat still_step
              refine wpStill_nil ?_
              change wpList _ _ _ _ _ (World.drew _)
              go_wp2_with (first | (go_at_call 77; refine HKD.out.mono ?_; rintro e w2 ⟨rfl, hA⟩; obtain ⟨o2, A2, c2, hr, ht⟩ := hA; have HR2 := Lib.hid (HTK.out.turn hr ht HWL.out); clear hr ht; have m1 := HR2.out.var.cell 0; have m4 := HR2.out.run.cells.2.1; have m5 := HR2.out.hw.cell 0; have m6 := HR2.out.hw.cell 1; have m7 := HR2.out.hw.lt; have KB := Lib.hid (HR2.out.behind hF); simp only [List.getElem?_toArray, List.getElem?_cons_zero, List.getElem?_cons_succ] at m1 m5 m6))
              refine wp_region_still_tail 8 (by kernel_rfl) (by kernel_rfl) ?_
              change wpStill _ _ (World.drew _) _ _ _
              simp only [List.take_succ_cons, List.take_zero, List.drop_succ_cons, List.drop_zero]
              repeat still_step
              refine wpStill_nil ?_
              change wpList _ _ _ _ _ (World.drew _)
              go_wp2_with (first | (go_at_call 34; refine KB.out.mono ?_; rintro e w3 ⟨rfl, hrp3⟩; have HR3 := Lib.hid hrp3; clear hrp3))
              go_roundg n
              case measure => omega
              case rel => exact ⟨o2, A2, c2, σ2, _, HR3, HG⟩
            | false =>
              have he : ¬ e2 = 0 := of_decide_eq_false he2
              have heb : (e2 != 0) = true := bne_iff_ne.mpr he
              have HE := Lib.hid (HER.out he)
              clear he2 he
              go_wp2_with fail
              refine wp_region_still_tail 5 (by kernel_rfl) (by kernel_rfl) ?_
              change wpStill _ _ (World.drew _) _ _ _
              simp only [List.take_succ_cons, List.take_zero, List.drop_succ_cons, List.drop_zero]
              repeat still_step
              refine wpStill_nil ?_
              change wpList _ _ _ _ _ (World.drew _)
              go_wp2_with (first | (go_at_call 77; refine HKD.out.mono ?_; rintro e w2 ⟨rfl, hA⟩; obtain ⟨o2, A2, c2, hr, ht⟩ := hA; have HR2 := Lib.hid (HTK.out.turn hr ht HWL.out); clear hr ht; have m1 := HR2.out.var.cell 0; have m4 := HR2.out.run.cells.2.1; have m5 := HR2.out.hw.cell 0; have m6 := HR2.out.hw.cell 1; have m7 := HR2.out.hw.lt; have KB := Lib.hid (HR2.out.behind hF); simp only [List.getElem?_toArray, List.getElem?_cons_zero, List.getElem?_cons_succ] at m1 m5 m6))
              refine wp_region_still_tail 8 (by kernel_rfl) (by kernel_rfl) ?_
              change wpStill _ _ (World.drew _) _ _ _
              simp only [List.take_succ_cons, List.take_zero, List.drop_succ_cons, List.drop_zero]
              repeat still_step
              refine wpStill_nil ?_
              change wpList _ _ _ _ _ (World.drew _)
              go_wp2_with (first | (go_at_call 34; refine KB.out.mono ?_; rintro e w3 ⟨rfl, hrp3⟩; have HR3 := Lib.hid hrp3; clear hrp3; clear m1 m4 m5 m6 m7; have m0 := HR3.out.fuel.cell 0; have m1 := HR3.out.var.cell 0; have m2 := HR3.out.done.cell 0; have m4 := HR3.out.run.cells.2.2.2.2; simp only [List.getElem?_toArray, List.getElem?_cons_zero, List.getElem?_cons_succ] at m0 m1 m2; have KE := Lib.hid (ends_q (n : Int) (by omega) (e := e2) (at_ := (σ.pc : Int)) m0 m2 m1 m4 (by omega) (by omega))) | (go_at_call 76; refine KE.out.mono ?_; rintro e w4 ⟨rfl, hb2⟩; have hq := HR3.out.res.below hb2 HR3.out.res.lt; have y0 := hq.cell 0; have y1 := hq.cell 1; have y2 := hq.cell 2; have y3 := hq.cell 3; have g0 := hq.frozen 0; have g1 := hq.frozen 1; have g2 := hq.frozen 2; have g3 := hq.frozen 3; have g4 := hq.lt; simp only [List.getElem?_toArray, List.getElem?_cons_zero, List.getElem?_cons_succ] at y0 y1 y2 y3; have HB2 := Lib.hid hb2; clear hb2 hq))
              have HOV := Lib.hid (HR3.out.over HB2.out (.int .i64 e2) (.int .i64 (σ.pc : Int)) (.int .i64 (n : Int)) (.slice A2 σ2.outs.length c2))
              refine bodyPost_ret (results_row_tmp rfl _ _ (w.heap.size + 1) 42 #[.int .i64 e2, .int .i64 (σ.pc : Int), .int .i64 (n : Int), .slice A2 σ2.outs.length c2] (0, 0) _ rfl HOV.out.2.2 Tryz.underlying42 rfl resSize) rfl ?_
              obtain rfl := HE.out
              exact ⟨_, rfl, HOV.out.1, HOV.out.2.1⟩
      · have HE := Lib.hid ((peak_out (n := gk) hlt).symm.trans HEX.out)
        have KE := Lib.hid (ends_q (gk : Int) (by omega) (e := 0) (at_ := (l.length : Int)) x0 x2 x1 c4 (by omega) (by omega))
        go_wp2_with (first | (go_at_call 76; refine KE.out.mono ?_; rintro e w2 ⟨rfl, hb2⟩; have hq := HRD.out.res.below hb2 HRD.out.res.lt; have y0 := hq.cell 0; have y1 := hq.cell 1; have y2 := hq.cell 2; have y3 := hq.cell 3; have g0 := hq.frozen 0; have g1 := hq.frozen 1; have g2 := hq.frozen 2; have g3 := hq.frozen 3; have g4 := hq.lt; simp only [List.getElem?_toArray, List.getElem?_cons_zero, List.getElem?_cons_succ] at y0 y1 y2 y3; have HB2 := Lib.hid hb2; clear hb2 hq))
        have HOV := Lib.hid (HRD.out.over HB2.out (.int .i64 0) (.int .i64 (l.length : Int)) (.int .i64 (gk : Int)) (.slice AO σ.outs.length cO))
        refine bodyPost_ret (results_row_tmp rfl _ _ (w.heap.size + 1) 42 #[.int .i64 0, .int .i64 (l.length : Int), .int .i64 (gk : Int), .slice AO σ.outs.length cO] (0, 0) _ rfl HOV.out.2.2 Tryz.underlying42 rfl resSize) rfl ?_
        obtain rfl := HE.out
        exact ⟨_, rfl, HOV.out.1, HOV.out.2.1⟩

end Go.Proofs.YteminkohgagedaaGreat.Mo
