/- A program is run, with nothing beside it. -/
import Derived.Test.YteminkohgagedaaGreatQMoDo
namespace Go.Proofs.YteminkohgagedaaGreat.Mo
open Go.RowKit Go.Proofs.YteminkohgagedaaGreat.Base Go.Proofs.YteminkohgagedaaGreat.Gr Go.Proofs.YteminkohgagedaaGreat.Ver
set_option linter.unusedVariables false
set_option linter.unusedSimpArgs false

theorem results_row_tmp {P : Program} {fn : Func} {p u : Tmp} {ty : TypeId} (h : fn.results = #[.cell p ty, .tmp u]) (tmps : Array Value) (w : World) (g : Nat) (t : TypeId) (cs : Array Value) (fr : Nat × Nat) (d : TypeDesc)
    (hp : tmps.getD p undef = .pointer (some ⟨g, 0, none⟩)) (hg : w.heap[g]? = some (.cells cs t fr))
    (hu : P.underlying ty = some d) (hd : (match d with | .struct _ | .array _ _ => true | _ => false) = true) (hi : (P.info? ty).map (·.size) = some cs.size) :
    (results fn tmps).run P w = .ok (.tuple #[.agg cs, tmps.getD u undef]) w := by
  have hp' : tmps[p]?.getD undef = .pointer (some ⟨g, 0, none⟩) := by simpa using hp
  simp [results, h, hp', asAddr, run_loadVar_row w g t ty cs fr d hg hu hd hi]
theorem results_row_row {P : Program} {fn : Func} {p u : Tmp} {ty ty2 : TypeId} (h : fn.results = #[.cell p ty, .cell u ty2]) (tmps : Array Value) (w : World) (g g2 : Nat) (t t2 : TypeId) (cs cs2 : Array Value) (fr fr2 : Nat × Nat) (d d2 : TypeDesc)
    (hp : tmps.getD p undef = .pointer (some ⟨g, 0, none⟩)) (hg : w.heap[g]? = some (.cells cs t fr))
    (hu : P.underlying ty = some d) (hd : (match d with | .struct _ | .array _ _ => true | _ => false) = true) (hi : (P.info? ty).map (·.size) = some cs.size)
    (hp2 : tmps.getD u undef = .pointer (some ⟨g2, 0, none⟩)) (hg2 : w.heap[g2]? = some (.cells cs2 t2 fr2))
    (hu2 : P.underlying ty2 = some d2) (hd2 : (match d2 with | .struct _ | .array _ _ => true | _ => false) = true) (hi2 : (P.info? ty2).map (·.size) = some cs2.size) :
    (results fn tmps).run P w = .ok (.tuple #[.agg cs, .agg cs2]) w := by
  have hp' : tmps[p]?.getD undef = .pointer (some ⟨g, 0, none⟩) := by simpa using hp
  have hp2' : tmps[u]?.getD undef = .pointer (some ⟨g2, 0, none⟩) := by simpa using hp2
  simp [results, h, hp', hp2', asAddr, run_loadVar_row w g t ty cs fr d hg hu hd hi, run_loadVar_row w g2 t2 ty2 cs2 fr2 d2 hg2 hu2 hd2 hi2]
theorem resSize : (Tryz.prog.info? 42).map (·.size) = some 4 := by kernel_rfl

theorem ends_any {w : World} {p0 pd pv rp : Nat} {F d e at_ : Int} {AO : Option Addr} {L cO : Nat} (h0 : w.cell? ⟨p0, 0, none⟩ = some (.int .i64 F)) (h1 : w.cell? ⟨pd, 0, none⟩ = some (.int .i64 d)) (h2 : w.cell? ⟨pv, 0, none⟩ = some (.pointer (some ⟨rp, 0, none⟩))) (h3 : w.cell? ⟨rp, 4, none⟩ = some (.slice AO L cO))
    (hd : 0 ≤ d ∧ d ≤ F) (hF : F ≤ 9223372036854775807) :
    Calls Tryz.prog 76 #[.int .i64 e, .int .i64 at_, .pointer (some ⟨p0, 0, none⟩), .pointer (some ⟨pd, 0, none⟩), .pointer (some ⟨pv, 0, none⟩)] w fun en w' => en = .returned (.tuple #[.agg #[.int .i64 e, .int .i64 at_, .int .i64 (F - d), .slice AO L cO], .int .i64 d]) ∧ Below w.heap.size w w' := by
  have z0 := cell_lt h0
  have z1 := cell_lt h1
  have z2 := cell_lt h2
  have z3 := cell_lt h3
  simp only at z0 z1 z2 z3
  have y0 : p0 < w.heap.size + 1 := by omega
  have y1 : pd < w.heap.size + 1 := by omega
  have y2 : pv < w.heap.size + 1 := by omega
  have y3 : rp < w.heap.size + 1 := by omega
  have hr1 : 0 ≤ F - d := by omega
  have hr2 : F - d ≤ 9223372036854775807 := by omega
  have hww : wrap64 (F - d) = F - d := IntWalk.wrap64_in _ (by omega)
  go_enter Tryz.func76, Tryz.ntmps76
  go_wp2
  go_region
  go_wp2
  refine bodyPost_ret (results_row_tmp rfl _ _ w.heap.size 42 #[.int .i64 e, .int .i64 at_, .int .i64 (F - d), .slice AO L cO] (0, 0) _ rfl ((Blk.new w _ _).drewN 1) Tryz.underlying42 rfl resSize) rfl ⟨rfl, below_drewN (below_1 _ _) 1⟩

theorem ends_q {w : World} {p0 pd pv rp : Nat} {F d e at_ : Int} {AO : Option Addr} {L cO : Nat} (q : Int) (hq : F - d = q) (h0 : w.cell? ⟨p0, 0, none⟩ = some (.int .i64 F)) (h1 : w.cell? ⟨pd, 0, none⟩ = some (.int .i64 d)) (h2 : w.cell? ⟨pv, 0, none⟩ = some (.pointer (some ⟨rp, 0, none⟩))) (h3 : w.cell? ⟨rp, 4, none⟩ = some (.slice AO L cO))
    (hd : 0 ≤ d ∧ d ≤ F) (hF : F ≤ 9223372036854775807) :
    Calls Tryz.prog 76 #[.int .i64 e, .int .i64 at_, .pointer (some ⟨p0, 0, none⟩), .pointer (some ⟨pd, 0, none⟩), .pointer (some ⟨pv, 0, none⟩)] w fun en w' => en = .returned (.tuple #[.agg #[.int .i64 e, .int .i64 at_, .int .i64 q, .slice AO L cO], .int .i64 d]) ∧ Below w.heap.size w w' := by
  subst hq
  exact ends_any h0 h1 h2 h3 hd hF

end Go.Proofs.YteminkohgagedaaGreat.Mo
namespace Go.Proofs.YteminkohgagedaaGreat.Mo
open Go.RowKit Go.Proofs.YteminkohgagedaaGreat.Base Go.Proofs.YteminkohgagedaaGreat.Gr Go.Proofs.YteminkohgagedaaGreat.Ver
set_option linter.unusedVariables false
set_option linter.unusedSimpArgs false

/-- A machine at its beginning. -/
def start (now last : Gr) : St := ⟨now, last, [0, 0, 0, 0], [0, 0, 0, 0], 0, []⟩
/-- What the function holds ahead of its loop: the boxes from z on, the registers. -/
structure Laid_ (w wx : World) (o : Nat → Tag) (B hp pv rp rb nb z F : Nat) (now last : Gr) : Prop where
  run : RM wx o B hp rp rb nb none 0 (start now last)
  fuel : Blk wx z 3 #[.int .i64 (F : Int)]
  res : Blk wx (z + 1) 42 #[.int .i64 0, .int .i64 0, .int .i64 0, .slice none 0 0]
  var : Blk wx pv 107 #[.pointer (some ⟨rp, 0, none⟩)]
  rest : ∀ k, z ≤ k → o k = .other
  lpv : z + 2 ≤ pv
  lrp : z + 2 ≤ rp
  lrb : z + 2 ≤ rb
  lnb : z + 2 ≤ nb
  below : Below w.heap.size w wx
theorem keep1 {w : World} {i : Nat} {x : Obj} (h : w.heap[i]? = some x) (o : Obj) : (w.alloc o).heap[i]? = some x := by
  have hlt : i < w.heap.size := by
    rcases Nat.lt_or_ge i w.heap.size with h1 | h1
    · exact h1
    · rw [Array.getElem?_eq_none h1] at h; cases h
  exact ((below_1 w o).block i hlt).trans h
theorem new1 {w : World} {i : Nat} (hi : w.heap.size = i) (o : Obj) : (w.alloc o).heap[i]? = some o := by subst hi; exact heap_alloc_new w o
theorem six (w : World) (o0 o1 o2 o3 o4 o5 : Obj) : ((((((w.alloc o0).alloc o1).alloc o2).alloc o3).alloc o4).alloc o5).heap[w.heap.size]? = some o0 ∧ ((((((w.alloc o0).alloc o1).alloc o2).alloc o3).alloc o4).alloc o5).heap[w.heap.size + 1]? = some o1 ∧
    ((((((w.alloc o0).alloc o1).alloc o2).alloc o3).alloc o4).alloc o5).heap[w.heap.size + 1 + 1]? = some o2 ∧ ((((((w.alloc o0).alloc o1).alloc o2).alloc o3).alloc o4).alloc o5).heap[w.heap.size + 1 + 1 + 1]? = some o3 ∧ ((((((w.alloc o0).alloc o1).alloc o2).alloc o3).alloc o4).alloc o5).heap[w.heap.size + 1 + 1 + 1 + 1]? = some o4 ∧
    ((((((w.alloc o0).alloc o1).alloc o2).alloc o3).alloc o4).alloc o5).heap[w.heap.size + 1 + 1 + 1 + 1 + 1]? = some o5 ∧ Below w.heap.size w ((((((w.alloc o0).alloc o1).alloc o2).alloc o3).alloc o4).alloc o5) := by
  refine ⟨keep1 (keep1 (keep1 (keep1 (keep1 (new1 rfl _) _) _) _) _) _, keep1 (keep1 (keep1 (keep1 (new1 (by simp) _) _) _) _) _, keep1 (keep1 (keep1 (new1 (by simp) _) _) _) _, keep1 (keep1 (new1 (by simp) _) _) _, keep1 (new1 (by simp) _) _, new1 (by simp) _, below_then (below_1 _ _) (below_then (below_1 _ _) (below_then (below_1 _ _) (below_then (below_1 _ _) (below_then (below_1 _ _) (below_1 _ _)))))⟩
theorem laid_of {w W wx : World} {o : Nat → Tag} {B hp F pv rp rb nb : Nat} {now last : Gr} (hm : HM w o B hp now last) (ho : ∀ k, w.heap.size ≤ k → o k = .other) (hl : Like W wx) (hb : Below w.heap.size w W)
    (b0 : W.heap[w.heap.size]? = some (.cells #[.int .i64 (F : Int)] 3)) (b1 : W.heap[w.heap.size + 1]? = some (.cells #[.int .i64 0, .int .i64 0, .int .i64 0, .slice none 0 0] 42))
    (bv : W.heap[pv]? = some (.cells #[.pointer (some ⟨rp, 0, none⟩)] 107))
    (br : W.heap[rp]? = some (.cells #[.iface 64 (.pointer (some ⟨hp, 0, none⟩)), .slice (some ⟨rb, 0, none⟩) 4 4, .slice (some ⟨nb, 0, none⟩) 4 4, .int .i64 0, .slice none 0 0] 109))
    (brb : W.heap[rb]? = some (.cells #[.int .i64 0, .int .i64 0, .int .i64 0, .int .i64 0] 3)) (bnb : W.heap[nb]? = some (.cells #[.int .i64 0, .int .i64 0, .int .i64 0, .int .i64 0] 3))
    (hv : w.heap.size + 2 ≤ pv) (hrp : w.heap.size + 2 ≤ rp) (hrb : w.heap.size + 2 ≤ rb) (hnb : w.heap.size + 2 ≤ nb) (hne : rb ≠ nb) : Laid_ w wx o B hp pv rp rb nb w.heap.size F now last := by
  have hB : B ≤ w.heap.size := by
    obtain ⟨_, _, _, _, _, _, _, _, _, _, h⟩ := hm
    exact h.base
  have hbx : Below w.heap.size w wx := ⟨hl.os.trans hb.os, hl.tape.trans hb.tape, hl.output.trans hb.output, by rw [hl.heap]; exact hb.size, fun i hi => by rw [hl.heap]; exact hb.block i hi⟩
  rw [← hl.heap] at b0 b1 bv br brb bnb
  exact ⟨⟨hm.below hbx, br, brb, bnb, own_nil _ _ _ _, ho _ (by omega), ho _ (by omega), ho _ (by omega), (fun k e => by cases e), hne, by omega, by omega, by omega⟩, b0, b1, bv, ho, hv, hrp, hrb, hnb, hbx⟩

theorem own_cap {w : World} {base e size n c : Nat} {A : Option Addr} {xs : List Value} (h : w.ownsRow base e size (.slice A n c) n xs) : n ≤ c := by
  obtain ⟨A', c', e1, hc⟩ := own_form h
  injection e1 with e1 e2 e3
  omega
theorem exec_out {l : List Ins} {n : Nat} {σ : St} (h : ¬ σ.pc < l.length) : exec l n σ = ⟨0, l.length, n, σ⟩ := by
  cases n with
  | zero => rw [exec, if_neg h]
  | succ n => rw [exec, if_neg h]
theorem exec_fuel {l : List Ins} {σ : St} (h : σ.pc < l.length) : exec l 0 σ = ⟨11, σ.pc, 0, σ⟩ := by rw [exec, if_pos h]
theorem exec_halt {l : List Ins} {n : Nat} {σ : St} (h : σ.pc < l.length) (h0 : (insAt l σ.pc).op = 0) : exec l (n + 1) σ = ⟨0, σ.pc, n, { σ with pc := σ.pc + 1 }⟩ := by rw [exec, if_pos h, if_pos h0]
theorem exec_go {l : List Ins} {n : Nat} {σ : St} (h : σ.pc < l.length) (h0 : (insAt l σ.pc).op ≠ 0) (h1 : (step (insAt l σ.pc) { σ with pc := σ.pc + 1 }).1 = 0) : exec l (n + 1) σ = exec l n (step (insAt l σ.pc) { σ with pc := σ.pc + 1 }).2 := by rw [exec, if_pos h, if_neg h0, if_pos h1]
theorem exec_err {l : List Ins} {n : Nat} {σ : St} (h : σ.pc < l.length) (h0 : (insAt l σ.pc).op ≠ 0) (h1 : (step (insAt l σ.pc) { σ with pc := σ.pc + 1 }).1 ≠ 0) : exec l (n + 1) σ = ⟨(step (insAt l σ.pc) { σ with pc := σ.pc + 1 }).1, σ.pc, n, (step (insAt l σ.pc) { σ with pc := σ.pc + 1 }).2⟩ := by rw [exec, if_pos h, if_neg h0, if_neg h1]
theorem insAt_eq {l : List Ins} {k : Nat} (h : k < l.length) : insAt l k = l[k] := by
  unfold insAt
  rw [List.getD_eq_getElem?_getD, List.getElem?_eq_getElem h]
  rfl

/-- A block that the running program does not turn. -/
def Calm (o : Nat → Tag) (rp rb nb : Nat) (AO : Option Addr) (k : Nat) : Prop := ¬ Hot o rp rb nb AO k
/-- What holds ahead of each round: gl is the fuel left. -/
structure Round (w wr : World) (o0 o : Nat → Tag) (B hp pv pd rp rb nb z F : Nat) (AO : Option Addr) (cO : Nat) (l : List Ins) (R : Res) (gl : Nat) (σ : St) : Prop where
  run : RM wr o B hp rp rb nb AO cO σ
  fuel : Blk wr z 3 #[.int .i64 (F : Int)]
  res : Blk wr (z + 1) 42 #[.int .i64 0, .int .i64 0, .int .i64 0, .slice none 0 0]
  var : Blk wr pv 107 #[.pointer (some ⟨rp, 0, none⟩)]
  done : Blk wr pd 3 #[.int .i64 ((F : Int) - (gl : Int))]
  c0 : Calm o rp rb nb AO z
  c1 : Calm o rp rb nb AO (z + 1)
  cv : Calm o rp rb nb AO pv
  cd : Calm o rp rb nb AO pd
  well : Well (1000 + (F - gl)) σ
  le : gl ≤ F
  ex : exec l gl σ = R
  mod : Mod (fun k => o0 k ≠ .other) w wr
  ext : ∀ k, k < w.heap.size → o k = o0 k
  out : ∀ k, blkOf AO = some k → w.heap.size ≤ k
  lrp : w.heap.size ≤ rp
  lrb : w.heap.size ≤ rb
  lnb : w.heap.size ≤ nb
  lz : w.heap.size ≤ z
  lpv : z + 2 ≤ pv
  lpd : z + 2 ≤ pd
  npd : pd ≠ rp ∧ pd ≠ pv
section
variable {w wr w2 : World} {o0 o o2 : Nat → Tag} {B hp pv pd rp rb nb z F : Nat} {AO A2 : Option Addr} {cO c2 : Nat} {l : List Ins} {R : Res} {gl : Nat} {σ σ2 : St}
theorem Calm.parts (h : Calm o rp rb nb AO z) : o z = .other ∧ z ≠ rp ∧ z ≠ rb ∧ z ≠ nb ∧ blkOf AO ≠ some z := by
  unfold Calm Hot at h
  refine ⟨?_, fun e => h (.inr (.inl e)), fun e => h (.inr (.inr (.inl e))), fun e => h (.inr (.inr (.inr (.inl e)))), fun e => h (.inr (.inr (.inr (.inr e))))⟩
  cases e : o z with
  | other => rfl
  | _ => exact absurd (.inl (by rw [e]; exact fun h => by cases h)) h
theorem Calm.turn (h : Calm o rp rb nb AO z) (hz : z < wr.heap.size) (ht : RTurn wr w2 o o2 rp rb nb AO A2) : Calm o2 rp rb nb A2 z := fun e => h (ht.hot hz e)
/-- The program's own blocks have turned. -/
theorem Round.turn {R2 : Res} (h : Round w wr o0 o B hp pv pd rp rb nb z F AO cO l R gl σ) (hr : RM w2 o2 B hp rp rb nb A2 c2 σ2) (ht : RTurn wr w2 o o2 rp rb nb AO A2) (hw : Well (1000 + (F - gl)) σ2) (he : exec l gl σ2 = R2) : Round w w2 o0 o2 B hp pv pd rp rb nb z F A2 c2 l R2 gl σ2 := by
  have hm0 := h.mod.size
  refine ⟨hr, h.fuel.mod ht.mod h.c0, h.res.mod ht.mod h.c1, h.var.mod ht.mod h.cv, h.done.mod ht.mod h.cd, h.c0.turn h.fuel.lt ht, h.c1.turn h.res.lt ht, h.cv.turn h.var.lt ht, h.cd.turn h.done.lt ht, hw, h.le, he, Mod.trans h.mod ht.mod (fun k hk e => ?_), fun k hk => (ht.ext k (by omega)).trans (h.ext k hk), fun k e => ?_, h.lrp, h.lrb, h.lnb, h.lz, h.lpv, h.lpd, h.npd⟩
  · have := h.lrp; have := h.lrb; have := h.lnb
    rcases e with e | e | e | e | e
    · rw [h.ext k hk] at e; exact e
    · omega
    · omega
    · omega
    · have := h.out k e; omega
  · rcases Nat.lt_or_ge k wr.heap.size with h1 | h1
    · exact h.out k (ht.out k h1 e)
    · omega
theorem Round.low (h : Round w wr o0 o B hp pv pd rp rb nb z F AO cO l R gl σ) (hlo : ∀ k, k < B → o0 k = .other) (hB : B ≤ w.heap.size) : Below B w wr :=
  ⟨h.mod.os, h.mod.tape, h.mod.output, h.mod.size, fun k hk => h.mod.block k (by omega) (fun e => e (hlo k hk))⟩
/-- One instruction more is done, the next one stands behind it. -/
theorem Round.tick (h : Round w wr o0 o B hp pv pd rp rb nb z F AO cO l R (gl + 1) σ) (k : Nat) {R' : Res} (he : exec l gl { σ with pc := k } = R') : Round w ((wr.setCell ⟨pd, 0, none⟩ (.int .i64 ((F : Int) - (gl : Int)))).setCell ⟨rp, 3, none⟩ (.int .i64 (k : Int))) o0 o B hp pv pd rp rb nb z F AO cO l R' gl { σ with pc := k } := by
  have hd := h.cd.parts
  have hv := h.cv.parts
  have h0 := h.c0.parts
  have h1 := h.c1.parts
  have hle := h.le
  have hlpd := h.lpd
  have hsz := h.mod.size
  have hlz := h.lz
  have hlrp := h.lrp
  have hnpd := h.npd
  have mp : Mod (fun k => k = pd) wr (wr.setCell ⟨pd, 0, none⟩ (.int .i64 ((F : Int) - (gl : Int)))) := mod_set' (S := fun k => k = pd) (Mod.refl _ _) rfl _
  have hr : RM (wr.setCell ⟨pd, 0, none⟩ (.int .i64 ((F : Int) - (gl : Int)))) o B hp rp rb nb AO cO σ := by
    have q := h.run
    exact ⟨q.heap.cellO hd.1 _ _, q.blk.far (p := ⟨pd, 0, none⟩) (Ne.symm hd.2.1) _, q.refs.far (p := ⟨pd, 0, none⟩) (Ne.symm hd.2.2.1) _, q.nums.far (p := ⟨pd, 0, none⟩) (Ne.symm hd.2.2.2.1) _, own_far q.outs (p := ⟨pd, 0, none⟩) (fun e => hd.2.2.2.2 (own_of_blk e)) _, q.orp, q.orb, q.onb, q.oO, q.ne, q.lrp, q.lrb, q.lnb⟩
  refine ⟨hr.pc k, (h.fuel.far (p := ⟨pd, 0, none⟩) (by show z ≠ pd; omega) _).far (p := ⟨rp, 3, none⟩) h0.2.1 _, (h.res.far (p := ⟨pd, 0, none⟩) (by show z + 1 ≠ pd; omega) _).far (p := ⟨rp, 3, none⟩) h1.2.1 _, (h.var.far (p := ⟨pd, 0, none⟩) (Ne.symm hnpd.2) _).far (p := ⟨rp, 3, none⟩) hv.2.1 _, ?_, h.c0, h.c1, h.cv, h.cd, ?_, by omega, he, ?_, h.ext, h.out, h.lrp, h.lrb, h.lnb, h.lz, h.lpv, h.lpd, h.npd⟩
  · exact (h.done.set_ 0 (.int .i64 ((F : Int) - (gl : Int)))).far (p := ⟨rp, 3, none⟩) hd.2.1 _
  · exact (h.well.more (by omega)).pc k
  · exact mod_set (mod_set h.mod (by show _ ≤ pd; omega) _) (by show _ ≤ rp; omega) _
/-- Numbers in a row of their own. -/
def OwnI (w : World) (A : Option Addr) (c : Nat) (l : List Int) : Prop := Ints w A l ∧ w.ownsRow 0 3 1 (.slice A l.length c) l.length (enc ic l)
/-- The run is over. -/
theorem Round.over (h : Round w wr o0 o B hp pv pd rp rb nb z F AO cO l R gl σ) (hb : Below wr.heap.size wr w2) (v0 v1 v2 v3 : Value) :
    HM ((((w2.setCell ⟨z + 1, 0, none⟩ v0).setCell ⟨z + 1, 1, none⟩ v1).setCell ⟨z + 1, 2, none⟩ v2).setCell ⟨z + 1, 3, none⟩ v3) o B hp σ.now σ.last ∧ OwnI ((((w2.setCell ⟨z + 1, 0, none⟩ v0).setCell ⟨z + 1, 1, none⟩ v1).setCell ⟨z + 1, 2, none⟩ v2).setCell ⟨z + 1, 3, none⟩ v3) AO cO σ.outs ∧
    Mod (fun k => o0 k ≠ .other) w ((((w2.setCell ⟨z + 1, 0, none⟩ v0).setCell ⟨z + 1, 1, none⟩ v1).setCell ⟨z + 1, 2, none⟩ v2).setCell ⟨z + 1, 3, none⟩ v3) ∧
    Blk ((((w2.setCell ⟨z + 1, 0, none⟩ v0).setCell ⟨z + 1, 1, none⟩ v1).setCell ⟨z + 1, 2, none⟩ v2).setCell ⟨z + 1, 3, none⟩ v3) (z + 1) 42 #[v0, v1, v2, v3] := by
  have hc := h.c1.parts
  have hlz := h.lz
  have h1 := h.run.below hb
  have ho := own_far (own_far (own_far (own_far h1.outs (p := ⟨z + 1, 0, none⟩) (fun e => hc.2.2.2.2 (own_of_blk e)) v0) (p := ⟨z + 1, 1, none⟩) (fun e => hc.2.2.2.2 (own_of_blk e)) v1) (p := ⟨z + 1, 2, none⟩) (fun e => hc.2.2.2.2 (own_of_blk e)) v2) (p := ⟨z + 1, 3, none⟩) (fun e => hc.2.2.2.2 (own_of_blk e)) v3
  have hol := h.well.outs
  refine ⟨(((h1.heap.cellO hc.1 0 v0).cellO hc.1 1 v1).cellO hc.1 2 v2).cellO hc.1 3 v3, ⟨Ints.of_own ho (by omega), own_lower ho (Nat.zero_le _)⟩, ?_, ((((h.res.below hb h.res.lt).set_ 0 v0).set_ 1 v1).set_ 2 v2).set_ 3 v3⟩
  have hm : Mod (fun k => o0 k ≠ .other) w w2 := Mod.trans h.mod (Mod.of_below (S := fun _ => False) hb) (fun _ _ h => h.elim)
  exact mod_set (mod_set (mod_set (mod_set hm (by show _ ≤ z + 1; omega) _) (by show _ ≤ z + 1; omega) _) (by show _ ≤ z + 1; omega) _) (by show _ ≤ z + 1; omega) _
end

set_option maxRecDepth 100000 in
set_option maxHeartbeats 8000000 in
theorem exec_any {w : World} {o : Nat → Tag} {B hp F : Nat} {now last : Gr} (hm : HM w o B hp now last) (hF : F ≤ 50000) (hw : Well 1000 (start now last)) (AL : Option Addr) (l : List Ins) (cl : Nat) (hA : ∀ w', Below B w w' → Arr w' Ins.cells 4 AL l) (hl : ∀ x ∈ l, x.ok l.length = true) (hll : l.length ≤ 200) :
    Calls Tryz.prog 28 #[.iface 64 (.pointer (some ⟨hp, 0, none⟩)), .int .i64 (F : Int), .slice AL l.length cl, .pointer none] w fun e w' =>
      ∃ o' AO cO, e = .returned (.tuple #[.agg #[.int .i64 (exec l F (start now last)).e, .int .i64 ((exec l F (start now last)).at_ : Int), .int .i64 ((exec l F (start now last)).left : Int), .slice AO (exec l F (start now last)).σ.outs.length cO], .int .i64 ((F : Int) - (exec l F (start now last)).left)]) ∧
        HM w' o' B hp (exec l F (start now last)).σ.now (exec l F (start now last)).σ.last ∧ OwnI w' AO cO (exec l F (start now last)).σ.outs ∧ Mod (fun k => o k ≠ .other) w w' ∧ (∀ ad, AO = some ad → w.heap.size ≤ ad.block) ∧ (exec l F (start now last)).σ.outs.length ≤ cO := by
  suffices hh : Calls Tryz.prog 28 #[.iface 64 (.pointer (some ⟨hp, 0, none⟩)), .int .i64 (F : Int), .slice AL l.length cl, .pointer none] w fun e w' =>
      ∃ o' AO cO, e = .returned (.tuple #[.agg #[.int .i64 (exec l F (start now last)).e, .int .i64 ((exec l F (start now last)).at_ : Int), .int .i64 ((exec l F (start now last)).left : Int), .slice AO (exec l F (start now last)).σ.outs.length cO], .int .i64 ((F : Int) - (exec l F (start now last)).left)]) ∧
        HM w' o' B hp (exec l F (start now last)).σ.now (exec l F (start now last)).σ.last ∧ OwnI w' AO cO (exec l F (start now last)).σ.outs ∧ Mod (fun k => norm w.heap.size o k ≠ .other) w w' ∧ (∀ ad, AO = some ad → w.heap.size ≤ ad.block) ∧ (exec l F (start now last)).σ.outs.length ≤ cO from
    hh.mono fun e w' ⟨o', AO, cO, q1, q2, q3, q4, q5, q6⟩ => ⟨o', AO, cO, q1, q2, q3, ⟨q4.os, q4.tape, q4.output, q4.size, fun k hk hn => q4.block k hk (fun e => hn (by rw [norm_lt hk] at e; exact e))⟩, q5, q6⟩
  replace hm : HM w (norm w.heap.size o) B hp now last := hm.keep (Mod.refl (fun _ => False) w) (fun _ _ h => h.elim) (fun k hk => norm_lt hk) (fun k hk hk' _ => by omega)
  have ho : ∀ k, w.heap.size ≤ k → norm w.heap.size o k = .other := fun k hk => norm_ge hk
  generalize norm w.heap.size o = o at hm ho ⊢
  obtain ⟨R, hR⟩ : ∃ R, exec l F (start now last) = R := ⟨_, rfl⟩
  rw [hR]
  have HR := Lib.hid hR
  have HM0 := Lib.hid hm
  have HO := Lib.hid ho
  have HW := Lib.hid hw
  have HA := Lib.hid hA
  have HL := Lib.hid hl
  have hmk : ∀ w : World, (Instr.makeSlice 22 (.int .i64 4) (.int .i64 4)).run Tryz.prog w = .ok (.slice (some ⟨w.heap.size, 0, none⟩) 4 4) (w.alloc (.cells #[.int .i64 0, .int .i64 0, .int .i64 0, .int .i64 0] 3)) := make_ints 4 (by omega)
  clear hR hm ho hw hA hl
  go_enter Tryz.func28, Tryz.ntmps28
  go_upto_region 1 with fail
  go_cut [10] (fun u wx => ∃ pv rp rb nb, u = .pointer (some ⟨pv, 0, none⟩) ∧ Hid (Laid_ w wx o B hp pv rp rb nb w.heap.size F now last))
  case first =>
    go_region
    all_goals
      go_wp2_with fail
      go_meet
      refine ⟨_, ?_, ?_, ?_, rfl, laid_of HM0.out HO.out (like_drew (like_self _)) (six w _ _ _ _ _ _).2.2.2.2.2.2 (six w _ _ _ _ _ _).1 (six w _ _ _ _ _ _).2.1 ?_ ?_ ?_ ?_ ?_ ?_ ?_ ?_ ?_⟩
      rotate_left 3
      · (first | exact (six w _ _ _ _ _ _).2.2.1 | exact (six w _ _ _ _ _ _).2.2.2.1 | exact (six w _ _ _ _ _ _).2.2.2.2.1 | exact (six w _ _ _ _ _ _).2.2.2.2.2.1)
      · (first | exact (six w _ _ _ _ _ _).2.2.1 | exact (six w _ _ _ _ _ _).2.2.2.1 | exact (six w _ _ _ _ _ _).2.2.2.2.1 | exact (six w _ _ _ _ _ _).2.2.2.2.2.1)
      · (first | exact (six w _ _ _ _ _ _).2.2.1 | exact (six w _ _ _ _ _ _).2.2.2.1 | exact (six w _ _ _ _ _ _).2.2.2.2.1 | exact (six w _ _ _ _ _ _).2.2.2.2.2.1)
      · (first | exact (six w _ _ _ _ _ _).2.2.1 | exact (six w _ _ _ _ _ _).2.2.2.1 | exact (six w _ _ _ _ _ _).2.2.2.2.1 | exact (six w _ _ _ _ _ _).2.2.2.2.2.1)
      all_goals omega
  case rest =>
    obtain ⟨pv, rp, rb, nb, rfl, HLD⟩ := hcut
    have zc := HLD.out.below.size
    have hfr : Round w (wc.alloc (.cells #[.int .i64 0] 3)) o o B hp pv wc.heap.size rp rb nb w.heap.size F none 0 l R F (start now last) := by
      have q := HLD.out
      have hb := below_1 wc (.cells #[.int .i64 0] 3)
      have hvl := q.var.lt
      have hrl := q.run.blk.lt
      have hrbl := q.run.refs.lt
      have hnbl := q.run.nums.lt
      have hrs := q.rest
      have hcalm : ∀ k, w.heap.size ≤ k → k ≠ rp → k ≠ rb → k ≠ nb → Calm o rp rb nb none k := fun k h1 h2 h3 h4 e => by
        rcases e with e | e | e | e | e
        · exact e (hrs k h1)
        · exact h2 e
        · exact h3 e
        · exact h4 e
        · cases e
      have l1 := q.lpv
      have l2 := q.lrp
      have l3 := q.lrb
      have l4 := q.lnb
      have hvr : pv ≠ rp := Base.Blk.ne_ q.var q.run.blk (by decide)
      have hvb : pv ≠ rb := Base.Blk.ne_ q.var q.run.refs (by decide)
      have hvn : pv ≠ nb := Base.Blk.ne_ q.var q.run.nums (by decide)
      refine ⟨q.run.below hb, q.fuel.alloc _, q.res.alloc _, q.var.alloc _, ?_, hcalm _ (by omega) (by omega) (by omega) (by omega), hcalm _ (by omega) (by omega) (by omega) (by omega), hcalm _ (by omega) hvr hvb hvn, hcalm _ (by omega) (by omega) (by omega) (by omega), ?_, Nat.le_refl _, HR.out, Mod.of_below (below_then q.below hb), fun _ _ => rfl, (fun k e => by cases e), by omega, by omega, by omega, Nat.le_refl _, by omega, ?_, ?_⟩
      · have := Blk.new wc 3 #[.int .i64 0]
        rwa [Int.sub_self]
      · have := HW.out; exact this.more (by omega)
      · have := q.lpv; omega
      · exact ⟨by omega, by omega⟩
    have HFR := Lib.hid hfr
    have HLO : Hid (B ≤ w.heap.size ∧ ∀ k, k < B → o k = .other) := by
      obtain ⟨_, _, _, _, _, _, _, _, _, _, h⟩ := HM0.out
      refine ⟨h.base, fun k hk => ?_⟩
      cases e : o k with
      | other => rfl
      | _ =>
        have hb := h.base
        have := h.lo k (by omega) (by rw [e]; exact fun h => by cases h)
        omega
    clear hfr zc
    go_wp2_with fail
    go_loopg [] F (fun gl wr => ∃ (o' : Nat → Tag) (AO : Option Addr) (cO : Nat) (σ : St), Hid (Round w wr o o' B hp pv wc.heap.size rp rb nb w.heap.size F AO cO l R gl σ))
    case atStart => exact ⟨o, none, 0, start now last, HFR⟩
    case round =>
      obtain ⟨o', AO, cO, σ, HRD⟩ := hrel
      have hle := HRD.out.le
      obtain ⟨c0, c1, c2, c3, c4⟩ := HRD.out.run.cells
      have x0 := HRD.out.fuel.cell 0
      have x1 := HRD.out.var.cell 0
      have x2 := HRD.out.done.cell 0
      have x3 := HRD.out.done.frozen 0
      have x4 := HRD.out.run.blk.frozen 3
      have z0 := HRD.out.fuel.lt
      have z1 := HRD.out.var.lt
      have z2 := HRD.out.done.lt
      have z3 := HRD.out.run.blk.lt
      have n1 := HRD.out.npd.1
      have n2 : rp ≠ wc.heap.size := Ne.symm n1
      have n3 := HRD.out.npd.2
      have n4 : pv ≠ wc.heap.size := Ne.symm n3
      have n5 := HRD.out.cv.parts.2.1
      simp only [List.getElem?_toArray, List.getElem?_cons_zero, List.getElem?_cons_succ] at x0 x1 x2
      have hpc0 : (0 : Int) ≤ (σ.pc : Int) := by omega
      by_cases hlt : σ.pc < l.length
      · cases gk with
        | zero =>
          have HE := Lib.hid ((exec_fuel hlt).symm.trans HRD.out.ex)
          have x2' : wr.cell? ⟨wc.heap.size, 0, none⟩ = some (.int .i64 (F : Int)) := by rw [x2]; simp
          have KE := Lib.hid (ends_q 0 (by omega) (e := 11) (at_ := (σ.pc : Int)) x0 x2' x1 c4 (by omega) (by omega))
          clear x2
          go_wp2_with (first | (go_at_call 76; refine KE.out.mono ?_; rintro e w2 ⟨rfl, hb2⟩; have hq := HRD.out.res.below hb2 HRD.out.res.lt; have y0 := hq.cell 0; have y1 := hq.cell 1; have y2 := hq.cell 2; have y3 := hq.cell 3; have g0 := hq.frozen 0; have g1 := hq.frozen 1; have g2 := hq.frozen 2; have g3 := hq.frozen 3; have g4 := hq.lt; simp only [List.getElem?_toArray, List.getElem?_cons_zero, List.getElem?_cons_succ] at y0 y1 y2 y3; have HB2 := Lib.hid hb2; clear hb2 hq))
          have HOV := Lib.hid (HRD.out.over HB2.out (.int .i64 11) (.int .i64 (σ.pc : Int)) (.int .i64 0) (.slice AO σ.outs.length cO))
          refine bodyPost_ret (results_row_tmp rfl _ _ (w.heap.size + 1) 42 #[.int .i64 11, .int .i64 (σ.pc : Int), .int .i64 0, .slice AO σ.outs.length cO] (0, 0) _ rfl HOV.out.2.2.2 Tryz.underlying42 rfl resSize) rfl ?_
          obtain rfl := HE.out
          exact ⟨o', AO, cO, by simp, HOV.out.1, HOV.out.2.1, HOV.out.2.2.1, fun ad e => HRD.out.out _ (by rw [e]; rfl), own_cap HRD.out.run.outs⟩
        | succ n =>
          obtain ⟨D, hD⟩ : ∃ D : Int, (F : Int) - ((n + 1 : Nat) : Int) = D := ⟨_, rfl⟩
          have HTK := Lib.hid (HRD.out.tick (σ.pc + 1) (R' := exec l n { σ with pc := σ.pc + 1 }) rfl)
          have HEX := Lib.hid HRD.out.ex
          have HDD := Lib.hid hD
          rw [show (F : Int) - (n : Int) = D + 1 by omega, show (((σ.pc + 1 : Nat)) : Int) = (σ.pc : Int) + 1 by omega] at HTK
          rw [hD] at x2
          have hDF : (D == (F : Int)) = false := beq_eq_false_iff_ne.mpr (by omega)
          have hD0 : 0 ≤ D := by omega
          have hD1 : D ≤ 50000 := by omega
          have hpl : σ.pc ≤ 200 := by omega
          have HAT := Lib.hid (HA.out _ (HTK.out.low HLO.out.2 HLO.out.1))
          obtain ⟨ad, rfl, k0, k1, k2, k3⟩ := codes_at HAT.out σ.pc hlt
          have hltI : (σ.pc : Int) < l.length := by omega
          clear hD
          go_upto_region 15 with fail
          generalize hWT : ((wr.setCell ⟨wc.heap.size, 0, none⟩ (.int .i64 (D + 1))).setCell ⟨rp, 3, none⟩ (.int .i64 ((σ.pc : Int) + 1))) = wt at HTK HAT k0 k1 k2 k3 ⊢
          have HX := Lib.hid (insAt_eq hlt)
          have hok := insAt_ok HL.out hlt
          rw [HX.out] at hok
          generalize l[σ.pc] = x at k0 k1 k2 k3 HX hok
          have q0 := HTK.out.fuel.cell 0
          have q1 := HTK.out.var.cell 0
          have q2 := HTK.out.done.cell 0
          have q4 := HTK.out.run.cells.2.2.2.2
          simp only [List.getElem?_toArray, List.getElem?_cons_zero, List.getElem?_cons_succ] at q0 q1 q2
          rw [show (F : Int) - (n : Int) = D + 1 by have := HDD.out; omega] at q2
          have hDn : (F : Int) - (D + 1) = (n : Int) := by have := HDD.out; omega
          have hD2 : D + 1 ≤ (F : Int) := by omega
          clear x0 x1 x2 x3 x4 c0 c1 c2 c3 c4 z0 z1 z2 z3 n1 n2 n3 n4 n5
          by_cases hx0 : x.op = 0
          · have HE := Lib.hid ((exec_halt (n := n) hlt (by rw [HX.out]; exact hx0)).symm.trans HEX.out)
            have KE := Lib.hid (ends_q (n : Int) hDn (e := 0) (at_ := (σ.pc : Int)) q0 q2 q1 q4 (by omega) (by omega))
            rw [hx0] at k0
            clear hDn
            go_wp2_with (first | (go_at_call 76; refine KE.out.mono ?_; rintro e w2 ⟨rfl, hb2⟩; have hq := HTK.out.res.below hb2 HTK.out.res.lt; have y0 := hq.cell 0; have y1 := hq.cell 1; have y2 := hq.cell 2; have y3 := hq.cell 3; have g0 := hq.frozen 0; have g1 := hq.frozen 1; have g2 := hq.frozen 2; have g3 := hq.frozen 3; have g4 := hq.lt; simp only [List.getElem?_toArray, List.getElem?_cons_zero, List.getElem?_cons_succ] at y0 y1 y2 y3; have HB2 := Lib.hid hb2; clear hb2 hq))
            have HOV := Lib.hid (HTK.out.over HB2.out (.int .i64 0) (.int .i64 (σ.pc : Int)) (.int .i64 (n : Int)) (.slice AO σ.outs.length cO))
            refine bodyPost_ret (results_row_tmp rfl _ _ (w.heap.size + 1) 42 #[.int .i64 0, .int .i64 (σ.pc : Int), .int .i64 (n : Int), .slice AO σ.outs.length cO] (0, 0) _ rfl HOV.out.2.2.2 Tryz.underlying42 rfl resSize) rfl ?_
            obtain rfl := HE.out
            exact ⟨o', AO, cO, by rw [show (F : Int) - (n : Int) = D + 1 by have := HDD.out; omega]; rfl, HOV.out.1, HOV.out.2.1, HOV.out.2.2.1, fun ad e => HRD.out.out _ (by rw [e]; rfl), own_cap HRD.out.run.outs⟩
          · have hxb : (x.op == 0) = false := beq_eq_false_iff_ne.mpr hx0
            have hNw : 1000 + (F - n) ≤ 100000 := by omega
            have WL := step_well hok (HRD.out.well.pc (σ.pc + 1))
            have HGO := Lib.hid (fun h1 => (exec_go (n := n) hlt (by rw [HX.out]; exact hx0) h1).symm.trans HEX.out)
            have HER := Lib.hid (fun h1 => (exec_err (n := n) hlt (by rw [HX.out]; exact hx0) h1).symm.trans HEX.out)
            rw [HX.out] at HGO HER
            have KD := (do_any (HTK.out.run.below (below_drewN (Below.refl _ _) 1)) _ hNw HTK.out.well x l.length hok hx0).mono (fun e w2 pst => (show e = _ ∧ After wt o' B hp rp rb nb AO _ w2 from ⟨pst.1, pst.2.from_ (below_drewN (Below.refl _ _) 1)⟩))
            generalize hst2 : (step x { σ with pc := σ.pc + 1 }).2 = σ2 at KD WL HGO HER
            generalize hst1 : (step x { σ with pc := σ.pc + 1 }).1 = e2 at KD HGO HER
            have HWL := Lib.hid (WL.more (show _ ≤ 1000 + (F - n) by omega))
            have HKD := Lib.hid KD
            obtain ⟨xop, xa, xb, xc⟩ := x
            dsimp only at k0 k1 k2 k3 hxb HKD
            clear KD WL hst1 hst2 hok hx0
            clear q2 q4 hDn
            cases he2 : decide (e2 = 0) with
            | true =>
              have he : e2 = 0 := of_decide_eq_true he2
              have HG := Lib.hid (HGO.out he)
              subst he
              clear he2
              go_wp2_with fail
              refine wp_region_still_tail 5 (by kernel_rfl) (by kernel_rfl) ?_
              change wpStill _ _ (World.drew _) _ _ _
              simp only [List.take_succ_cons, List.take_zero, List.drop_succ_cons, List.drop_zero]
              repeat still_step
              refine wpStill_nil ?_
              change wpList _ _ _ _ _ (World.drew _)
              go_wp2_with (first | (go_at_call 77; refine HKD.out.mono ?_; rintro e w2 ⟨rfl, hA⟩; obtain ⟨o2, A2, c2, hr, ht⟩ := hA; have HR2 := Lib.hid (HTK.out.turn hr ht HWL.out HG.out); clear hr ht))
              go_roundg n
              case measure => omega
              case rel => exact ⟨o2, A2, c2, σ2, HR2⟩
            | false =>
              have he : ¬ e2 = 0 := of_decide_eq_false he2
              have heb : (e2 != 0) = true := bne_iff_ne.mpr he
              have HE := Lib.hid (HER.out he)
              clear he2 he
              go_wp2_with fail
              refine wp_region_still_tail 5 (by kernel_rfl) (by kernel_rfl) ?_
              change wpStill _ _ (World.drew _) _ _ _
              simp only [List.take_succ_cons, List.take_zero, List.drop_succ_cons, List.drop_zero]
              repeat still_step
              refine wpStill_nil ?_
              change wpList _ _ _ _ _ (World.drew _)
              go_wp2_with (first | (go_at_call 77; refine HKD.out.mono ?_; rintro e w2 ⟨rfl, hA⟩; obtain ⟨o2, A2, c2, hr, ht⟩ := hA; have HR2 := Lib.hid (HTK.out.turn hr ht HWL.out (rfl : exec l n σ2 = exec l n σ2)); clear hr ht; have m0 := HR2.out.fuel.cell 0; have m1 := HR2.out.var.cell 0; have m2 := HR2.out.done.cell 0; have m4 := HR2.out.run.cells.2.2.2.2; simp only [List.getElem?_toArray, List.getElem?_cons_zero, List.getElem?_cons_succ] at m0 m1 m2; have KE := Lib.hid (ends_q (n : Int) (by omega) (e := e2) (at_ := (σ.pc : Int)) m0 m2 m1 m4 (by omega) (by omega))) | (go_at_call 76; refine KE.out.mono ?_; rintro e w3 ⟨rfl, hb2⟩; have hq := HR2.out.res.below hb2 HR2.out.res.lt; have y0 := hq.cell 0; have y1 := hq.cell 1; have y2 := hq.cell 2; have y3 := hq.cell 3; have g0 := hq.frozen 0; have g1 := hq.frozen 1; have g2 := hq.frozen 2; have g3 := hq.frozen 3; have g4 := hq.lt; simp only [List.getElem?_toArray, List.getElem?_cons_zero, List.getElem?_cons_succ] at y0 y1 y2 y3; have HB2 := Lib.hid hb2; clear hb2 hq))
              have HOV := Lib.hid (HR2.out.over HB2.out (.int .i64 e2) (.int .i64 (σ.pc : Int)) (.int .i64 (n : Int)) (.slice A2 σ2.outs.length c2))
              refine bodyPost_ret (results_row_tmp rfl _ _ (w.heap.size + 1) 42 #[.int .i64 e2, .int .i64 (σ.pc : Int), .int .i64 (n : Int), .slice A2 σ2.outs.length c2] (0, 0) _ rfl HOV.out.2.2.2 Tryz.underlying42 rfl resSize) rfl ?_
              obtain rfl := HE.out
              exact ⟨o2, A2, c2, rfl, HOV.out.1, HOV.out.2.1, HOV.out.2.2.1, fun ad e => HR2.out.out _ (by rw [e]; rfl), own_cap HR2.out.run.outs⟩
      · have HE := Lib.hid ((exec_out (n := gk) hlt).symm.trans HRD.out.ex)
        have KE := Lib.hid (ends_q (gk : Int) (by omega) (e := 0) (at_ := (l.length : Int)) x0 x2 x1 c4 (by omega) (by omega))
        go_wp2_with (first | (go_at_call 76; refine KE.out.mono ?_; rintro e w2 ⟨rfl, hb2⟩; have hq := HRD.out.res.below hb2 HRD.out.res.lt; have y0 := hq.cell 0; have y1 := hq.cell 1; have y2 := hq.cell 2; have y3 := hq.cell 3; have g0 := hq.frozen 0; have g1 := hq.frozen 1; have g2 := hq.frozen 2; have g3 := hq.frozen 3; have g4 := hq.lt; simp only [List.getElem?_toArray, List.getElem?_cons_zero, List.getElem?_cons_succ] at y0 y1 y2 y3; have HB2 := Lib.hid hb2; clear hb2 hq))
        have HOV := Lib.hid (HRD.out.over HB2.out (.int .i64 0) (.int .i64 (l.length : Int)) (.int .i64 (gk : Int)) (.slice AO σ.outs.length cO))
        refine bodyPost_ret (results_row_tmp rfl _ _ (w.heap.size + 1) 42 #[.int .i64 0, .int .i64 (l.length : Int), .int .i64 (gk : Int), .slice AO σ.outs.length cO] (0, 0) _ rfl HOV.out.2.2.2 Tryz.underlying42 rfl resSize) rfl ?_
        obtain rfl := HE.out
        exact ⟨o', AO, cO, rfl, HOV.out.1, HOV.out.2.1, HOV.out.2.2.1, fun ad e => HRD.out.out _ (by rw [e]; rfl), own_cap HRD.out.run.outs⟩

end Go.Proofs.YteminkohgagedaaGreat.Mo
