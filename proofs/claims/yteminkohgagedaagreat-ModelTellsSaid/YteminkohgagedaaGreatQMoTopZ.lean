/- The small functions of the statements (1): Empty, SameInts, alive. -/
import Derived.Test.YteminkohgagedaaGreatQMoExec
import Derived.Test.YteminkohgagedaaGreatQVerCheck
import Derived.Test.YteminkohgagedaaGreatQGrCells
namespace Go.Proofs.YteminkohgagedaaGreat.Mo
open Go.RowKit Go.Proofs.YteminkohgagedaaGreat.Base Go.Proofs.YteminkohgagedaaGreat.Gr Go.Proofs.YteminkohgagedaaGreat.Ver
set_option linter.unusedVariables false
set_option linter.unusedSimpArgs false

/-- What Run comes to. -/
structure Out where
  e : Int
  at_ : Int
  left : Int
  outs : List Int
  gr : Gr
def runM (g : Gr) (F : Nat) (l : List Ins) : Out :=
  if right g = true then
    if (chk l).2 = 0 then ⟨(exec l F (start g g)).e, (exec l F (start g g)).at_, (exec l F (start g g)).left, (exec l F (start g g)).σ.outs, number (exec l F (start g g)).σ.last⟩
    else ⟨(chk l).2, (chk l).1, F, [], g⟩
  else ⟨1, 0, F, [], g⟩
theorem start_well {g : Gr} (h : right g = true) : Well 1000 (start g g) := begin_well h

theorem heap_new {w1 w2 W3 : World} {t1 t2 : Nat → Tag} {B : Nat} {A1 D1 A2 D2 : Option Addr} {c1 d1 c2 d2 : Nat} {x1 x2 : List Value} {g : Gr} (hB : B ≤ w1.heap.size)
    (h1 : GM w1 t1 false A1 c1 D1 d1 x1 g) (lo1 : ∀ k, t1 k ≠ .other → B ≤ k) (hb : Below w1.heap.size w1 w2) (h2 : GM w2 t2 true A2 c2 D2 d2 x2 g) (lo2 : ∀ k, t2 k ≠ .other → w1.heap.size ≤ k)
    (hl : Like (w2.alloc (.cells #[.slice A1 g.roots.length c1, .slice D1 g.nodes.length d1, .slice A2 g.roots.length c2, .slice D2 g.nodes.length d2] 66)) W3) :
    HM W3 (fun k => if k < w1.heap.size then t1 k else if k < w2.heap.size then t2 k else if k = w2.heap.size then .heap else .other) B w2.heap.size g g := by
  have hb3 : Below w2.heap.size w2 W3 := by
    have := below_1 w2 (.cells #[.slice A1 g.roots.length c1, .slice D1 g.nodes.length d1, .slice A2 g.roots.length c2, .slice D2 g.nodes.length d2] 66)
    exact ⟨hl.os.trans this.os, hl.tape.trans this.tape, hl.output.trans this.output, by rw [hl.heap]; exact this.size, fun i hi => by rw [hl.heap]; exact this.block i hi⟩
  have hs := hb.size
  refine ⟨A1, c1, D1, d1, x1, A2, c2, D2, d2, x2, ?_, ?_, ?_, ?_, fun k hk e => ?_, Nat.le_trans hB (Nat.le_trans hs hb3.size)⟩
  · have := Blk.new w2 66 #[.slice A1 g.roots.length c1, .slice D1 g.nodes.length d1, .slice A2 g.roots.length c2, .slice D2 g.nodes.length d2]
    exact (congrArg (fun h => h[w2.heap.size]? = _) hl.heap).mpr this
  · show (if w2.heap.size < w1.heap.size then t1 w2.heap.size else if w2.heap.size < w2.heap.size then t2 w2.heap.size else if w2.heap.size = w2.heap.size then Tag.heap else Tag.other) = Tag.heap
    rw [if_neg (by omega), if_neg (by omega), if_pos rfl]
  · exact h1.mod (Mod.of_below (S := fun _ => False) (below_then hb hb3)) (fun _ _ h => h.elim) (fun k hk => if_pos hk)
  · have h2' : GM w2 (fun k => if k < w1.heap.size then t1 k else if k < w2.heap.size then t2 k else if k = w2.heap.size then .heap else .other) true A2 c2 D2 d2 x2 g := by
      have q : GM w2 (fun k => if k < w1.heap.size then .other else t2 k) true A2 c2 D2 d2 x2 g := h2.retag (fun k hk => if_neg (by have := lo2 k hk; omega))
      refine (q.mod (Mod.refl (fun _ => False) w2) (fun _ _ h => h.elim) (o' := fun k => if k < w1.heap.size then .other else if k < w2.heap.size then t2 k else .other) (fun k hk => ?_)).retag (fun k hk => ?_)
      · by_cases h : k < w1.heap.size
        · simp [h]
        · simp [h, hk]
      · by_cases h : k < w1.heap.size
        · simp [h] at hk
        · simp only [h, if_false] at hk ⊢
          by_cases h' : k < w2.heap.size
          · simp [h']
          · simp [h'] at hk
    exact h2'.mod (Mod.of_below (S := fun _ => False) hb3) (fun _ _ h => h.elim) (fun _ _ => rfl)
  · by_cases h : k < w1.heap.size
    · rw [if_pos h] at e; exact lo1 k e
    · omega
theorem HM.firm {w : World} {o : Nat → Tag} {B hp N : Nat} {now last : Gr} (h : HM w o B hp now last) (hs : Sound N last) (hN : N ≤ 100000) : ∃ A' c' D' d', w.cell? ⟨hp, 2, none⟩ = some (.slice A' last.roots.length c') ∧ w.cell? ⟨hp, 3, none⟩ = some (.slice D' last.nodes.length d') ∧ hp < w.heap.size ∧ Ints w A' last.roots ∧ Nodes w D' last.nodes := by
  obtain ⟨A, c, D, d, xs, A', c', D', d', xs', h⟩ := h
  have h1 := hs.size
  exact ⟨A', c', D', d', h.cells.2.2.1, h.cells.2.2.2, h.blk.lt, h.last.roots.ints (by have := hs.roots; omega), h.last.nodes.reads (by omega) (sound_small hs)⟩

/-- What a call of Run gives back. -/
def RunPost (w : World) (x : Out) (en : Ending) (w' : World) : Prop :=
  ∃ AO cO v, en = .returned (.tuple #[.agg #[.int .i64 x.e, .int .i64 x.at_, .int .i64 x.left, .slice AO x.outs.length cO], v]) ∧ Ints w' AO x.outs ∧ GrV w' v x.gr ∧ Below w.heap.size w w'

/-- .. and the list told has room for its numbers. -/
def RunPost2 (w : World) (x : Out) (en : Ending) (w' : World) : Prop :=
  ∃ AO cO v, en = .returned (.tuple #[.agg #[.int .i64 x.e, .int .i64 x.at_, .int .i64 x.left, .slice AO x.outs.length cO], v]) ∧ Ints w' AO x.outs ∧ GrV w' v x.gr ∧ Below w.heap.size w w' ∧ x.outs.length ≤ cO
/-- .. and all rows are their own, those of the graph behind the list told; or the graph is the one that was handed in, and nothing is told. -/
def RunPost4 (w : World) (arg : Value) (g : Gr) (x : Out) (en : Ending) (w' : World) : Prop :=
  ∃ AO cO v, en = .returned (.tuple #[.agg #[.int .i64 x.e, .int .i64 x.at_, .int .i64 x.left, .slice AO x.outs.length cO], v]) ∧ Ints w' AO x.outs ∧ GrV w' v x.gr ∧ Below w.heap.size w w' ∧ x.outs.length ≤ cO ∧
    w'.ownsRow w.heap.size 3 1 (.slice AO x.outs.length cO) x.outs.length (enc ic x.outs) ∧ ((∃ lo, w.heap.size ≤ lo ∧ OwnG lo w' v x.gr ∧ ∀ ad, AO = some ad → ad.block < lo) ∨ (v = arg ∧ AO = none ∧ x.gr = g))
/-- .. and all rows are their own, or the graph is the one that was handed in. -/
def RunPost3 (w : World) (arg : Value) (x : Out) (en : Ending) (w' : World) : Prop :=
  ∃ AO cO v, en = .returned (.tuple #[.agg #[.int .i64 x.e, .int .i64 x.at_, .int .i64 x.left, .slice AO x.outs.length cO], v]) ∧ Ints w' AO x.outs ∧ GrV w' v x.gr ∧ Below w.heap.size w w' ∧ x.outs.length ≤ cO ∧
    w'.ownsRow w.heap.size 3 1 (.slice AO x.outs.length cO) x.outs.length (enc ic x.outs) ∧ (OwnG w.heap.size w' v x.gr ∨ v = arg)
theorem ownG_mod {lo : Nat} {w w' : World} {v : Value} {g : Gr} {S : Nat → Prop} (h : OwnG lo w v g) (hm : Mod S w w') (hS : ∀ b, S b → b < lo) : OwnG lo w' v g := by
  have key : ∀ {e s n : Nat} {u : Value} {xs : List Value}, w.ownsRow lo e s u n xs → w'.ownsRow lo e s u n xs := fun {e s n u xs} ho =>
    own_mod ho hm (fun k hk hs => by have h1 := (own_block ho k hk).1; have h2 := hS k hs; omega)
  obtain ⟨A, a, D, d, xs, rfl, o1, o2, o3⟩ := h
  refine ⟨A, a, D, d, xs, rfl, key o1, key o2, fun j hj => ?_⟩
  obtain ⟨B, b, C, c, x1, x2, y1, y2⟩ := o3 j hj
  exact ⟨B, b, C, c, x1, x2, key y1, key y2⟩
theorem ownG_low {lo lo' : Nat} {w : World} {v : Value} {g : Gr} (h : OwnG lo w v g) (hl : lo' ≤ lo) : OwnG lo' w v g := by
  obtain ⟨A, a, D, d, xs, rfl, o1, o2, o3⟩ := h
  refine ⟨A, a, D, d, xs, rfl, own_lower o1 hl, own_lower o2 hl, fun j hj => ?_⟩
  obtain ⟨B, b, C, c, x1, x2, y1, y2⟩ := o3 j hj
  exact ⟨B, b, C, c, x1, x2, own_lower y1 hl, own_lower y2 hl⟩
theorem drewN_zero (w : World) : w.drewN 0 = w := rfl
theorem mod_drewN {S : Nat → Prop} {w w1 : World} (h : Mod S w w1) (n : Nat) : Mod S w (w1.drewN n) := ⟨h.os, h.tape, h.output, h.size, h.block⟩
/-- The two results are written. -/
theorem ret_rows {w w1 : World} {p q : Nat} {a0 a1 a2 a3 b0 b1 : Value} (hb : Below w.heap.size w w1) (hp : w.heap.size ≤ p) (hq : w.heap.size ≤ q) (hpq : p ≠ q) (h1 : Blk w1 p 42 #[a0, a1, a2, a3]) (h2 : Blk w1 q 25 #[b0, b1]) (v0 v1 v2 v3 u0 u1 : Value) (n : Nat) :
    Blk (((((((w1.setCell ⟨p, 0, none⟩ v0).setCell ⟨p, 1, none⟩ v1).setCell ⟨p, 2, none⟩ v2).setCell ⟨p, 3, none⟩ v3).setCell ⟨q, 0, none⟩ u0).setCell ⟨q, 1, none⟩ u1).drewN n) p 42 #[v0, v1, v2, v3] ∧
    Blk (((((((w1.setCell ⟨p, 0, none⟩ v0).setCell ⟨p, 1, none⟩ v1).setCell ⟨p, 2, none⟩ v2).setCell ⟨p, 3, none⟩ v3).setCell ⟨q, 0, none⟩ u0).setCell ⟨q, 1, none⟩ u1).drewN n) q 25 #[u0, u1] ∧
    Below w.heap.size w (((((((w1.setCell ⟨p, 0, none⟩ v0).setCell ⟨p, 1, none⟩ v1).setCell ⟨p, 2, none⟩ v2).setCell ⟨p, 3, none⟩ v3).setCell ⟨q, 0, none⟩ u0).setCell ⟨q, 1, none⟩ u1).drewN n) ∧ Mod (fun k => k = p ∨ k = q) w1 (((((((w1.setCell ⟨p, 0, none⟩ v0).setCell ⟨p, 1, none⟩ v1).setCell ⟨p, 2, none⟩ v2).setCell ⟨p, 3, none⟩ v3).setCell ⟨q, 0, none⟩ u0).setCell ⟨q, 1, none⟩ u1).drewN n) := by
  refine ⟨?_, ?_, ?_, ?_⟩
  · have := (((((h1.set_ 0 v0).set_ 1 v1).set_ 2 v2).set_ 3 v3).far (p := ⟨q, 0, none⟩) hpq u0).far (p := ⟨q, 1, none⟩) hpq u1
    exact this.drewN n
  · have hqp := Ne.symm hpq
    have := ((((((h2.far (p := ⟨p, 0, none⟩) hqp v0).far (p := ⟨p, 1, none⟩) hqp v1).far (p := ⟨p, 2, none⟩) hqp v2).far (p := ⟨p, 3, none⟩) hqp v3).set_ 0 u0).set_ 1 u1)
    exact this.drewN n
  · refine below_drewN ((((((hb.setCell ?_ _).setCell ?_ _).setCell ?_ _).setCell ?_ _).setCell ?_ _).setCell ?_ _) n
    all_goals first | exact hp | exact hq
  · refine mod_drewN (mod_set' (mod_set' (mod_set' (mod_set' (mod_set' (mod_set' (Mod.refl _ _) ?_ _) ?_ _) ?_ _) ?_ _) ?_ _) ?_ _) n
    all_goals first | exact .inl rfl | exact .inr rfl
/-- Results stay where the two rows are written. -/
theorem ret_keep {w1 W : World} {B p q : Nat} {v : Value} {gr : Gr} {AO : Option Addr} {l : List Int} (hm : Mod (fun k => k = p ∨ k = q) w1 W) (hp : p < B) (hq : q < B) (hV : Firm B w1 v gr) (hI : Ints w1 AO l) (hA : ∀ ad, AO = some ad → B ≤ ad.block) : GrV W v gr ∧ Ints W AO l :=
  ⟨hV _ _ hm (fun b e => by rcases e with e | e <;> omega), hI.mod hm (fun ad e h => by have := hA ad e; rcases h with h | h <;> omega)⟩

set_option maxRecDepth 100000 in
set_option maxHeartbeats 8000000 in
theorem run_wide (A D AL : Option Addr) (g : Gr) (l : List Ins) (c d cl : Nat) (fu : Int) (F : Nat) (hF : F ≤ 50000) (hfu : max fu 0 = (F : Int)) (w : World) (hA : Ints w A g.roots) (hD : Nodes w D g.nodes) (hL : Arr w Ins.cells 4 AL l) :
    Calls Tryz.prog 9 #[.agg #[.slice A g.roots.length c, .slice D g.nodes.length d], .int .i64 fu, .slice AL l.length cl] w fun e w' => RunPost4 w (.agg #[.slice A g.roots.length c, .slice D g.nodes.length d]) g (runM g F l) e w' := by
  have hb0 := below_then (below_1 w (.cells #[.slice A g.roots.length c, .slice D g.nodes.length d] 25)) (below_then (below_1 _ (.cells #[.int .i64 0, .int .i64 0, .int .i64 0, .slice none 0 0] 42)) (below_1 _ (.cells #[.slice none 0 0, .slice none 0 0] 25)))
  have HB0 := Lib.hid hb0
  have KR := Lib.hid (right_any A D g c d _ (hA.below hb0) (hD.below hb0))
  have HA := Lib.hid hA
  have HD := Lib.hid hD
  have HL := Lib.hid hL
  have HG0 := Lib.hid (((Blk.new w 25 #[.slice A g.roots.length c, .slice D g.nodes.length d]).alloc (.cells #[.int .i64 0, .int .i64 0, .int .i64 0, .slice none 0 0] 42)).alloc (.cells #[.slice none 0 0, .slice none 0 0] 25))
  have hR0 := (Blk.new (w.alloc (.cells #[.slice A g.roots.length c, .slice D g.nodes.length d] 25)) 42 #[.int .i64 0, .int .i64 0, .int .i64 0, .slice none 0 0]).alloc (.cells #[.slice none 0 0, .slice none 0 0] 25)
  have hT0 := Blk.new ((w.alloc (.cells #[.slice A g.roots.length c, .slice D g.nodes.length d] 25)).alloc (.cells #[.int .i64 0, .int .i64 0, .int .i64 0, .slice none 0 0] 42)) 25 #[.slice none 0 0, .slice none 0 0]
  simp only [World.size_alloc] at hR0 hT0
  have HR0 := Lib.hid hR0
  have HT0 := Lib.hid hT0
  have HRUN : Hid (∃ x, runM g F l = x) := ⟨_, rfl⟩
  obtain ⟨X, hX⟩ := HRUN.out
  rw [hX]
  have HXX := Lib.hid hX
  clear hA hD hL hb0 hR0 hT0 hX HRUN
  go_enter Tryz.func9, Tryz.ntmps9
  go_upto_region 1 with fail
  go_cut [1] (fun u1 wx => u1 = .int .i64 (F : Int) ∧ wx = ((w.alloc (.cells #[.slice A g.roots.length c, .slice D g.nodes.length d] 25)).alloc (.cells #[.int .i64 0, .int .i64 0, .int .i64 0, .slice none 0 0] 42)).alloc (.cells #[.slice none 0 0, .slice none 0 0] 25))
  case first =>
    go_wp2_with fail
    all_goals
      go_meet
      exact ⟨by congr 1; omega, rfl⟩
  case rest =>
  obtain ⟨rfl, rfl⟩ := hcut
  clear hfu
  go_wp2_with fail
  refine KR.out.mono ?_
  rintro e w1 ⟨rfl, hb1⟩
  have HB1 := Lib.hid (below_then HB0.out hb1)
  have HG1 := Lib.hid (HG0.out.below hb1 HG0.out.lt)
  have HR1 := Lib.hid (HR0.out.below hb1 HR0.out.lt)
  have HT1 := Lib.hid (HT0.out.below hb1 HT0.out.lt)
  have x0 := HG1.out.cell 0
  have x1 := HG1.out.cell 1
  have zg := HG1.out.lt
  simp only [List.getElem?_toArray, List.getElem?_cons_zero, List.getElem?_cons_succ] at x0 x1
  clear hb1 KR HB0 HG0 HR0 HT0
  cases hr : right g with
  | false =>
    have r0 := HR1.out.cell 0
    have r1 := HR1.out.cell 1
    have r2 := HR1.out.cell 2
    have r3 := HR1.out.cell 3
    have s0 := HR1.out.frozen 0
    have s1 := HR1.out.frozen 1
    have s2 := HR1.out.frozen 2
    have s3 := HR1.out.frozen 3
    have zr := HR1.out.lt
    have t0 := HT1.out.cell 0
    have t1 := HT1.out.cell 1
    have q0 := HT1.out.frozen 0
    have q1 := HT1.out.frozen 1
    have zt := HT1.out.lt
    simp only [List.getElem?_toArray, List.getElem?_cons_zero, List.getElem?_cons_succ] at r0 r1 r2 r3 t0 t1
    go_wp2_with fail
    go_region
    go_wp2
    have RR := ret_rows (p := w.heap.size + 1) (q := w.heap.size + 1 + 1) HB1.out (by omega) (by omega) (by omega) HR1.out HT1.out (.int .i64 1) (.int .i64 0) (.int .i64 (F : Int)) (.slice none 0 0) (.slice A g.roots.length c) (.slice D g.nodes.length d) 1
    refine bodyPost_ret (results_row_row rfl _ _ (w.heap.size + 1) (w.heap.size + 1 + 1) 42 25 #[.int .i64 1, .int .i64 0, .int .i64 (F : Int), .slice none 0 0] #[.slice A g.roots.length c, .slice D g.nodes.length d] (0, 0) (0, 0) _ _ rfl RR.1 Tryz.underlying42 rfl resSize rfl RR.2.1 Tryz.underlying25 rfl graphSize) rfl ?_
    have e : X = ⟨1, 0, F, [], g⟩ := by
      rw [← HXX.out, runM, hr]
      rfl
    subst e
    exact ⟨none, 0, _, rfl, Ints.nil _, ⟨A, c, D, d, rfl, HA.out.below RR.2.2.1, HD.out.below RR.2.2.1⟩, RR.2.2.1, Nat.le_refl _, own_nil _ _ _ _, .inr ⟨rfl, rfl, rfl⟩⟩
  | true =>
    go_wp2_with fail
    refine (check_any AL l cl w1 (HL.out.below HB1.out)).mono ?_
    rintro e w2 ⟨rfl, hb2⟩
    have HB2 := Lib.hid (below_then HB1.out hb2)
    have HG2 := Lib.hid (HG1.out.below hb2 HG1.out.lt)
    have HR2 := Lib.hid (HR1.out.below hb2 HR1.out.lt)
    have HT2 := Lib.hid (HT1.out.below hb2 HT1.out.lt)
    have HRR := Lib.hid hr
    clear hb2 HG1 HR1 HT1 x0 x1 zg HB1 hr
    have x0 := HG2.out.cell 0
    have x1 := HG2.out.cell 1
    have zg := HG2.out.lt
    simp only [List.getElem?_toArray, List.getElem?_cons_zero, List.getElem?_cons_succ] at x0 x1
    obtain ⟨cw, hcw⟩ : ∃ cw, (chk l).1 = cw := ⟨_, rfl⟩
    obtain ⟨ce, hce⟩ : ∃ ce, (chk l).2 = ce := ⟨_, rfl⟩
    rw [hcw, hce]
    have HC1 := Lib.hid hcw
    have HC2 := Lib.hid hce
    clear hcw hce
    by_cases hc0 : ce = 0
    · have hcb : (ce != 0) = false := by rw [hc0]; rfl
      obtain ⟨hl0, hll, hok, hchk⟩ := chk_ok (l := l) (by rw [HC2.out]; exact hc0)
      have HOK := Lib.hid hok
      have hfit := sound_right HRR.out
      have HS := Lib.hid hfit
      have hbw2 := below_drewN HB2.out 1
      have HBD := Lib.hid hbw2
      have hd0 : w2.drew.heap.size = w2.heap.size := rfl
      have hbw2s := Lib.hid (show w.heap.size ≤ w2.drew.heap.size from hbw2.size)
      have HC0 := Lib.hid hc0
      clear hok hchk hfit hbw2 hc0 hd0
      go_wp2_with fail
      go_region_held3 (fun W => W.cell? ⟨w.heap.size, 0, none⟩ = some (.slice A g.roots.length c) ∧ W.cell? ⟨w.heap.size, 1, none⟩ = some (.slice D g.nodes.length d))
        (first
          | exact hcs
          | go_keep)
        (first
          | (go_at_call 27; revert hg1; intro hg1; refine (own_any true A D g c d _ (HA.out.below hbw3.out) (HD.out.below hbw3.out) (by rw [HS.out.roots]; omega) (Nat.le_trans HS.out.size (by omega)) (sound_small HS.out)).mono ?_; rintro e w4 ⟨t2, A2, c2, D2, d2, y2, rfl, hg2', ht2', hbo2'⟩; have hg2 := Lib.hid hg2'; have ht2 := Lib.hid ht2'; have hbo2 := Lib.hid hbo2'; clear hg2' ht2' hbo2'; have hcs := (show w4.cell? ⟨w.heap.size, 0, none⟩ = some (.slice A g.roots.length c) ∧ w4.cell? ⟨w.heap.size, 1, none⟩ = some (.slice D g.nodes.length d) from ⟨(hbo2.out.cell (cell_lt hcs.1)).trans hcs.1, (hbo2.out.cell (cell_lt hcs.2)).trans hcs.2⟩))
          | (go_at_call 27; refine (own_any false A D g c d _ (HA.out.below HBD.out) (HD.out.below HBD.out) (by rw [HS.out.roots]; omega) (Nat.le_trans HS.out.size (by omega)) (sound_small HS.out)).mono ?_; rintro e w3 ⟨t1, A1, c1, D1, d1, y1, rfl, hg1', ht1', hbo1'⟩; have hg1 := Lib.hid hg1'; have ht1 := Lib.hid ht1'; have hbw3 := Lib.hid (below_then HBD.out hbo1'); have hbo1 := Lib.hid hbo1'; clear hg1' ht1' hbo1'; have hcs := (show w3.cell? ⟨w.heap.size, 0, none⟩ = some (.slice A g.roots.length c) ∧ w3.cell? ⟨w.heap.size, 1, none⟩ = some (.slice D g.nodes.length d) from ⟨(hbo1.out.cell (cell_lt x0)).trans x0, (hbo1.out.cell (cell_lt x1)).trans x1⟩)))
      have hB3 := hbw3.out.size
      have hbw4 := Lib.hid (below_then hbw3.out hbo2.out)
      have HH := Lib.hid (heap_new (B := w2.heap.size) hbo1.out.size hg1.out (fun k hk => ht1.out k hk) hbo2.out hg2.out ht2.out (like_self _))
      obtain ⟨o, HHo'⟩ : ∃ o, HM (w4.alloc (.cells #[.slice A1 g.roots.length c1, .slice D1 g.nodes.length d1, .slice A2 g.roots.length c2, .slice D2 g.nodes.length d2] 66)) o w2.heap.size w4.heap.size g g := ⟨_, HH.out⟩
      have HHo := Lib.hid HHo'
      have HBW := Lib.hid (below_then hbw4.out (below_1 w4 (.cells #[.slice A1 g.roots.length c1, .slice D1 g.nodes.length d1, .slice A2 g.roots.length c2, .slice D2 g.nodes.length d2] 66)))
      have HX4 := Lib.hid (show Below w2.heap.size w2 (w4.alloc (.cells #[.slice A1 g.roots.length c1, .slice D1 g.nodes.length d1, .slice A2 g.roots.length c2, .slice D2 g.nodes.length d2] 66)) from below_then (below_drewN (Below.refl _ w2) 1) (below_then hbo1.out (below_then hbo2.out (below_1 w4 _))))
      clear HHo' HH hcs hB3 hbw4 hbo2 hbo1 hg2 hg1 ht2 ht1
      go_wp2_with fail
      have zh := HHo.out
      generalize w4.alloc (.cells #[.slice A1 g.roots.length c1, .slice D1 g.nodes.length d1, .slice A2 g.roots.length c2, .slice D2 g.nodes.length d2] 66) = W at HHo HBW HX4 zh ⊢
      refine (exec_any HHo.out hF (start_well HRR.out) AL l cl (fun w' hb => HL.out.below (HBW.out.trans (hb.mono HB2.out.size))) HOK.out hll).mono ?_
      rintro e w5 ⟨o5, AO, cO, rfl, hm5, ⟨hi5, ho5⟩, hmod5, hao, hcap⟩
      have hlo : ∀ b, b < w2.heap.size → ¬ (o b ≠ .other) := fun b hb e => by
        obtain ⟨_, _, _, _, _, _, _, _, _, _, h⟩ := zh
        have hs := HX4.out.size
        have := h.lo b (by omega) e
        omega
      have HX5 := Lib.hid (mod_below HX4.out hmod5 HX4.out.size hlo)
      have HR5 := Lib.hid (HR2.out.below HX5.out HR2.out.lt)
      have HT5 := Lib.hid (HT2.out.below HX5.out HT2.out.lt)
      have HB5 := Lib.hid (below_then HB2.out HX5.out)
      have hsr := (exec_well HOK.out F 1000 (start g g) (start_well HRR.out)).last
      have hxe : X = ⟨(exec l F (start g g)).e, (exec l F (start g g)).at_, (exec l F (start g g)).left, (exec l F (start g g)).σ.outs, number (exec l F (start g g)).σ.last⟩ := by
        rw [← HXX.out, runM, if_pos HRR.out, if_pos (HC2.out.trans HC0.out)]
      obtain ⟨A6, c6, D6, d6, m2, m3, m4, hI6, hN6⟩ := hm5.firm hsr (by omega)
      generalize exec l F (start g g) = r at *
      have HXE := Lib.hid hxe
      have HCP := Lib.hid hcap
      have HSR := Lib.hid hsr
      have HI5 := Lib.hid hi5
      have HO5 := Lib.hid ho5
      have HAO := Lib.hid (fun ad e => Nat.le_trans (show w2.heap.size ≤ W.heap.size from HX4.out.size) (hao ad e))
      have hb6 := below_drewN (below_1 w5 (.cells #[.int .i64 r.e, .int .i64 (r.at_ : Int), .int .i64 (r.left : Int), .slice AO r.σ.outs.length cO] 42)) 1
      have HB6 := Lib.hid hb6
      have hs6 := hsr.size
      have KN := Lib.hid (number_own A6 D6 r.σ.last c6 d6 _ (by rw [hsr.roots]; omega) (by omega) hsr.named hsr.nodes (hI6.below hb6) (hN6.below hb6))
      have HP := Lib.hid (show w.heap.size + 1 < w2.heap.size ∧ w.heap.size + 1 + 1 < w2.heap.size from ⟨HR2.out.lt, HT2.out.lt⟩)
      have HAB := HAO
      have m5 : w4.heap.size < w5.heap.size + 1 := by omega
      have m6 : w5.heap.size < w5.heap.size + 1 := by omega
      clear hcap hm5 hmod5 hao hlo hsr hxe hi5 ho5 hI6 hN6 hb6 HR2 HT2 HG2 x0 x1 zg zh
      go_wp2_with fail
      go_region_law ((try go_simp); go_at_call 29; refine KN.out.mono ?_; rintro e w7 ⟨v, rfl, ⟨hV, hOG⟩, hb7⟩; have HOG := Lib.hid hOG; clear hOG; obtain ⟨A8, a8, D8, d8, rfl, -, -⟩ := hV.now; have HR7 := Lib.hid (HR5.out.below (below_then HB6.out hb7) HR5.out.lt); have HT7 := Lib.hid (HT5.out.below (below_then HB6.out hb7) HT5.out.lt); have r0 := HR7.out.cell 0; have r1 := HR7.out.cell 1; have r2 := HR7.out.cell 2; have r3 := HR7.out.cell 3; have s0 := HR7.out.frozen 0; have s1 := HR7.out.frozen 1; have s2 := HR7.out.frozen 2; have s3 := HR7.out.frozen 3; have zr := HR7.out.lt; have t0 := HT7.out.cell 0; have t1 := HT7.out.cell 1; have q0 := HT7.out.frozen 0; have q1 := HT7.out.frozen 1; have zt := HT7.out.lt; simp only [List.getElem?_toArray, List.getElem?_cons_zero, List.getElem?_cons_succ] at r0 r1 r2 r3 t0 t1; have HV := Lib.hid (Firm.low hV (show w2.heap.size ≤ _ from Nat.le_trans HX5.out.size (HB6.out.size))); have HB7 := Lib.hid (below_then HB6.out hb7); have hq7 := ((Blk.new w5 42 #[.int .i64 r.e, .int .i64 (r.at_ : Int), .int .i64 (r.left : Int), .slice AO r.σ.outs.length cO]).drewN 1).below hb7 (by simp); have e0 := hq7.cell 0; have e1 := hq7.cell 1; have e2 := hq7.cell 2; have e3 := hq7.cell 3; have e4 := hq7.lt; simp only [List.getElem?_toArray, List.getElem?_cons_zero, List.getElem?_cons_succ] at e0 e1 e2 e3; clear hV hb7 hq7)
      all_goals
        go_wp2
        have RR := ret_rows (p := w.heap.size + 1) (q := w.heap.size + 1 + 1) (below_then HB5.out HB7.out) (by omega) (by omega) (by omega) HR7.out HT7.out (.int .i64 r.e) (.int .i64 (r.at_ : Int)) (.int .i64 (r.left : Int)) (.slice AO r.σ.outs.length cO) (.slice A8 (number r.σ.last).roots.length a8) (.slice D8 (number r.σ.last).nodes.length d8) 0
        simp only [drewN_zero] at RR
        refine bodyPost_ret (results_row_row rfl _ _ (w.heap.size + 1) (w.heap.size + 1 + 1) 42 25 #[.int .i64 r.e, .int .i64 (r.at_ : Int), .int .i64 (r.left : Int), .slice AO r.σ.outs.length cO] #[.slice A8 (number r.σ.last).roots.length a8, .slice D8 (number r.σ.last).nodes.length d8] (0, 0) (0, 0) _ _ rfl RR.1 Tryz.underlying42 rfl resSize rfl RR.2.1 Tryz.underlying25 rfl graphSize) rfl ?_
        have e := HXE.out
        subst e
        have hk := ret_keep RR.2.2.2 HP.out.1 HP.out.2 HV.out (HI5.out.below HB7.out) HAB.out
        have hpq := HP.out
        have hlt2 := HB2.out.size
        have hlow : w.heap.size ≤ w5.heap.size := HB5.out.size
        have hog := ownG_mod HOG.out RR.2.2.2 (fun b hb => by
          have h6 := HB6.out.size
          have h5 := (below_then HB5.out HB6.out).size
          have h25 : w2.heap.size ≤ w5.heap.size := HX5.out.size
          rcases hb with hb | hb <;> omega)
        have ho7 : w7.ownsRow 0 3 1 (.slice AO r.σ.outs.length cO) r.σ.outs.length (enc ic r.σ.outs) := own_below HO5.out HB7.out
        have hrow := own_mod (own_raise ho7 (lo' := w2.heap.size) (fun k hk => by
          obtain ⟨ad, e1, e2⟩ := block_iff hk
          rw [← e2]; exact HAB.out ad e1)) RR.2.2.2 (fun k hk hb => by
          obtain ⟨ad, e1, e2⟩ := block_iff hk
          have := HAB.out ad e1
          rw [e2] at this
          rcases hb with hb | hb <;> omega)
        exact ⟨AO, cO, _, rfl, hk.2, hk.1, RR.2.2.1, HCP.out, own_lower hrow hlt2, .inl ⟨_, (below_then HB5.out HB6.out).size, hog, fun ad e => by
          have h1 := (own_block HO5.out ad.block (by rw [e]; rfl)).2
          have h2 := HB6.out.size
          omega⟩⟩
    · have hcb : (ce != 0) = true := bne_iff_ne.mpr hc0
      have r0 := HR2.out.cell 0
      have r1 := HR2.out.cell 1
      have r2 := HR2.out.cell 2
      have r3 := HR2.out.cell 3
      have s0 := HR2.out.frozen 0
      have s1 := HR2.out.frozen 1
      have s2 := HR2.out.frozen 2
      have s3 := HR2.out.frozen 3
      have zr := HR2.out.lt
      have t0 := HT2.out.cell 0
      have t1 := HT2.out.cell 1
      have q0 := HT2.out.frozen 0
      have q1 := HT2.out.frozen 1
      have zt := HT2.out.lt
      simp only [List.getElem?_toArray, List.getElem?_cons_zero, List.getElem?_cons_succ] at r0 r1 r2 r3 t0 t1
      go_wp2_with fail
      go_region
      go_wp2
      have RR := ret_rows (p := w.heap.size + 1) (q := w.heap.size + 1 + 1) HB2.out (by omega) (by omega) (by omega) HR2.out HT2.out (.int .i64 ce) (.int .i64 cw) (.int .i64 (F : Int)) (.slice none 0 0) (.slice A g.roots.length c) (.slice D g.nodes.length d) 1
      refine bodyPost_ret (results_row_row rfl _ _ (w.heap.size + 1) (w.heap.size + 1 + 1) 42 25 #[.int .i64 ce, .int .i64 cw, .int .i64 (F : Int), .slice none 0 0] #[.slice A g.roots.length c, .slice D g.nodes.length d] (0, 0) (0, 0) _ _ rfl RR.1 Tryz.underlying42 rfl resSize rfl RR.2.1 Tryz.underlying25 rfl graphSize) rfl ?_
      have e : X = ⟨ce, cw, F, [], g⟩ := by
        rw [← HXX.out, runM, if_pos HRR.out, if_neg (by rw [HC2.out]; exact hc0), HC1.out, HC2.out]
      subst e
      exact ⟨none, 0, _, rfl, Ints.nil _, ⟨A, c, D, d, rfl, HA.out.below RR.2.2.1, HD.out.below RR.2.2.1⟩, RR.2.2.1, Nat.le_refl _, own_nil _ _ _ _, .inr ⟨rfl, rfl, rfl⟩⟩

theorem run_full (A D AL : Option Addr) (g : Gr) (l : List Ins) (c d cl : Nat) (F : Nat) (hF : F ≤ 50000) (w : World) (hA : Ints w A g.roots) (hD : Nodes w D g.nodes) (hL : Arr w Ins.cells 4 AL l) :
    Calls Tryz.prog 9 #[.agg #[.slice A g.roots.length c, .slice D g.nodes.length d], .int .i64 (F : Int), .slice AL l.length cl] w fun e w' => RunPost3 w (.agg #[.slice A g.roots.length c, .slice D g.nodes.length d]) (runM g F l) e w' :=
  (run_wide A D AL g l c d cl (F : Int) F hF (by omega) w hA hD hL).mono fun e w' ⟨AO, cO, v, h1, h2, h3, h4, h5, h6, h7⟩ => ⟨AO, cO, v, h1, h2, h3, h4, h5, h6, h7.imp (fun ⟨lo, q1, q2, _⟩ => ownG_low q2 q1) (fun q => q.1)⟩
theorem run_room (A D AL : Option Addr) (g : Gr) (l : List Ins) (c d cl : Nat) (F : Nat) (hF : F ≤ 50000) (w : World) (hA : Ints w A g.roots) (hD : Nodes w D g.nodes) (hL : Arr w Ins.cells 4 AL l) :
    Calls Tryz.prog 9 #[.agg #[.slice A g.roots.length c, .slice D g.nodes.length d], .int .i64 (F : Int), .slice AL l.length cl] w fun e w' => RunPost2 w (runM g F l) e w' :=
  (run_full A D AL g l c d cl F hF w hA hD hL).mono fun e w' ⟨AO, cO, v, h1, h2, h3, h4, h5, _⟩ => ⟨AO, cO, v, h1, h2, h3, h4, h5⟩
theorem run_any (A D AL : Option Addr) (g : Gr) (l : List Ins) (c d cl : Nat) (F : Nat) (hF : F ≤ 50000) (w : World) (hA : Ints w A g.roots) (hD : Nodes w D g.nodes) (hL : Arr w Ins.cells 4 AL l) :
    Calls Tryz.prog 9 #[.agg #[.slice A g.roots.length c, .slice D g.nodes.length d], .int .i64 (F : Int), .slice AL l.length cl] w fun e w' => RunPost w (runM g F l) e w' :=
  (run_room A D AL g l c d cl F hF w hA hD hL).mono fun e w' ⟨AO, cO, v, h1, h2, h3, h4, _⟩ => ⟨AO, cO, v, h1, h2, h3, h4⟩

end Go.Proofs.YteminkohgagedaaGreat.Mo
namespace Go.Proofs.YteminkohgagedaaGreat.Mo
open Go.RowKit Go.Proofs.YteminkohgagedaaGreat.Base Go.Proofs.YteminkohgagedaaGreat.Gr Go.Proofs.YteminkohgagedaaGreat.Ver
set_option linter.unusedVariables false
set_option linter.unusedSimpArgs false

def emptyG : Gr := ⟨[0, 0, 0, 0, 0, 0, 0, 0], []⟩
theorem empty_any (w : World) : Calls Tryz.prog 20 #[] w fun e w' => ∃ A c, e = .returned (.agg #[.slice A 8 c, .slice none 0 0]) ∧ Ints w' A emptyG.roots ∧ Below w.heap.size w w' := by
  have hmk : ∀ w : World, (Instr.makeSlice 22 (.int .i64 8) (.int .i64 8)).run Tryz.prog w = .ok (.slice (some ⟨w.heap.size, 0, none⟩) 8 8) (w.alloc (.cells #[.int .i64 0, .int .i64 0, .int .i64 0, .int .i64 0, .int .i64 0, .int .i64 0, .int .i64 0, .int .i64 0] 3)) := make_ints 8 (by omega)
  have hG := (Blk.new w 25 #[.slice (some ⟨w.heap.size + 1, 0, none⟩) 8 8, .slice none 0 0]).alloc (.cells #[.int .i64 0, .int .i64 0, .int .i64 0, .int .i64 0, .int .i64 0, .int .i64 0, .int .i64 0, .int .i64 0] 3)
  have hI := Blk.new (w.alloc (.cells #[.slice (some ⟨w.heap.size + 1, 0, none⟩) 8 8, .slice none 0 0] 25)) 3 #[.int .i64 0, .int .i64 0, .int .i64 0, .int .i64 0, .int .i64 0, .int .i64 0, .int .i64 0, .int .i64 0]
  rw [World.size_alloc] at hI
  have HG := Lib.hid hG
  have HI := Lib.hid hI
  clear hG hI
  go_enter Tryz.func20, Tryz.ntmps20
  go_wp2
  (try simp only [Exit.inBlock, Exit.then])
  refine bodyPost_ret (v := .agg #[.slice (some ⟨w.heap.size + 1, 0, none⟩) 8 8, .slice none 0 0]) (results_cell_row rfl _ _ w.heap.size 25 _ (0, 0) _ rfl HG.out Tryz.underlying25 rfl graphSize) rfl ?_
  exact ⟨_, _, rfl, ints_blk (t := 3) (l := [0, 0, 0, 0, 0, 0, 0, 0]) HI.out (by simp), below_then (below_1 _ _) (below_1 _ _)⟩

theorem same_any (A B : Option Addr) (l m : List Int) (c d : Nat) (w : World) (hl : Ints w A l) (hm : Ints w B m) (hn : l.length ≤ 100000) :
    Calls Tryz.prog 40 #[.slice A l.length c, .slice B m.length d] w fun e w' => e = .returned (.bool (decide (l = m))) ∧ Below w.heap.size w w' := by
  by_cases h : l.length = m.length
  case neg =>
    rw [decide_eq_false (fun e => h (by rw [e]))]
    have hb : ((l.length : Int) != m.length) = true := bne_iff_ne.mpr (by omega)
    clear hl hm h
    go_enter Tryz.func40, Tryz.ntmps40
    go_wp2
    go_ret
    exact ⟨rfl, Below.refl _ _⟩
  have HL := Lib.hid hl
  have HM := Lib.hid hm
  have hb : ((l.length : Int) != m.length) = false := by simp [h]
  have HE := Lib.hid h
  have hle : l.length ≤ m.length := by omega
  clear hl hm h
  go_enter Tryz.func40, Tryz.ntmps40
  go_wp2
  go_loopw [5] (fun i wr => ∃ k : Nat, k ≤ l.length ∧ i = .int .i64 k ∧ Hid (Below w.heap.size w wr) ∧ Hid (∀ j, (hj : j < k) → l[j]? = m[j]?)) (fun i _ => l.length - (intOf i).toNat)
  case atStart => exact ⟨0, Nat.zero_le _, rfl, Below.refl _ _, fun j hj => absurd hj (by omega)⟩
  case round =>
    obtain ⟨k, hk, rfl, HB, HP⟩ := hrel
    by_cases hlt : k < l.length
    · obtain ⟨ad, rfl, d1⟩ := (HL.out.below HB.out).at_ k hlt
      obtain ⟨ad2, rfl, d2⟩ := (HM.out.below HB.out).at_ k (by omega)
      have hmlt : k < m.length := by omega
      by_cases he : l[k] = m[k]
      · have hb2 : (l[k] == m[k]) = true := beq_iff_eq.mpr he
        have HX := Lib.hid he
        rw [he] at d1 hb2
        clear he
        go_wp2_with fail
        go_quiet (fail)
        go_wp2
        go_roundw
        case rel =>
          refine ⟨k + 1, by omega, by go_num, HB.out.trans (below_drewN (Below.refl _ _) _), fun j hj => ?_⟩
          rcases Nat.lt_or_ge j k with h | h
          · exact HP.out j h
          · obtain rfl : j = k := by omega
            rw [List.getElem?_eq_getElem hlt, List.getElem?_eq_getElem hmlt, HX.out]
        case measure => simp [intOf]; omega
      · have hb2 : (l[k] == m[k]) = false := beq_eq_false_iff_ne.mpr he
        have HX := Lib.hid he
        clear he
        go_wp2_with fail
        go_quiet (fail)
        go_wp2
        go_ret
        refine ⟨ret_bool (decide_eq_false (fun e => HX.out ?_)).symm, HB.out.trans (below_drewN (Below.refl _ _) _)⟩
        subst e
        rfl
    · go_wp2
      go_ret
      refine ⟨ret_bool (decide_eq_true ?_).symm, HB.out⟩
      apply List.ext_getElem? 
      intro j
      rcases Nat.lt_or_ge j l.length with h | h
      · exact HP.out j (by omega)
      · rw [List.getElem?_eq_none h, List.getElem?_eq_none (by have := HE.out; omega)]

theorem arr_blk {w : World} {g : Nat} {t : TypeId} {cs : Array Value} {l : List Ins} (h : Blk w g t cs) (hc : cs.toList = enc Ins.cells l) : Arr w Ins.cells 4 (some ⟨g, 0, none⟩) l := by
  refine ⟨enc_len Ins.cells_len l, fun _ => ⟨_, rfl, fun j u hu => ?_⟩⟩
  rw [add_of_zero, h.cell j, ← Array.getElem?_toList, hc]
  exact hu
def aliveL : List Ins := [⟨1, 0, 5, 0⟩, ⟨16, 0, 0, 0⟩, ⟨7, 1, 0, 1⟩, ⟨13, 1, 2, 0⟩, ⟨14, 0, 0, 0⟩]
theorem alive_runs : runM emptyG 99 aliveL = ⟨0, 5, 94, [5], ⟨[0, 0, 1, 0, 0, 0, 0, 0], [⟨[], [0]⟩]⟩⟩ := by rfl

set_option maxRecDepth 100000 in
theorem alive_any (w : World) : Calls Tryz.prog 5 #[] w fun e w' => e = .returned (.bool true) ∧ Below w.heap.size w w' := by
  go_enter Tryz.func5, Tryz.ntmps5
  go_wp2_with fail
  refine (empty_any w).mono ?_
  rintro e w1 ⟨A, c, rfl, hI, hb⟩
  have HI := Lib.hid hI
  have HB := Lib.hid hb
  clear hI hb
  go_wp2_with fail
  have hL := arr_blk (l := aliveL) (Blk.new w1 58 #[.int .i64 1, .int .i64 0, .int .i64 5, .int .i64 0, .int .i64 16, .int .i64 0, .int .i64 0, .int .i64 0, .int .i64 7, .int .i64 1, .int .i64 0, .int .i64 1, .int .i64 13, .int .i64 1, .int .i64 2, .int .i64 0, .int .i64 14, .int .i64 0, .int .i64 0, .int .i64 0]) rfl
  have hb1 := below_1 w1 (.cells #[.int .i64 1, .int .i64 0, .int .i64 5, .int .i64 0, .int .i64 16, .int .i64 0, .int .i64 0, .int .i64 0, .int .i64 7, .int .i64 1, .int .i64 0, .int .i64 1, .int .i64 13, .int .i64 1, .int .i64 2, .int .i64 0, .int .i64 14, .int .i64 0, .int .i64 0, .int .i64 0] 58)
  refine (run_any A none (some ⟨w1.heap.size, 0, none⟩) emptyG aliveL c 0 5 99 (by omega) _ (HI.out.below hb1) ⟨by simp [emptyG], fun i hi => by simp [emptyG] at hi⟩ hL).mono ?_
  rw [alive_runs]
  rintro e w2 ⟨AO, cO, v, rfl, h1, h2, h3⟩
  obtain ⟨A3, c3, B3, d3, rfl, g1, g2⟩ := h2
  have hbb := below_then (below_1 w2 (.cells #[.int .i64 0, .int .i64 5, .int .i64 94, .slice AO 1 cO] 42)) (below_1 _ (.cells #[.slice A3 8 c3, .slice B3 1 d3] 25))
  obtain ⟨ad, rfl, d0⟩ := h1.at_ 0 (by simp)
  obtain ⟨ad2, rfl, d2⟩ := g1.at_ 2 (by simp)
  have H3 := Lib.hid (below_then HB.out (below_then hb1 h3))
  have HBB := Lib.hid hbb
  have e0 : ad.add 0 = ad := by simp [Addr.add]
  have e2 : ad2.add 2 = ⟨ad2.block, ad2.off + 2, none⟩ := by simp [Addr.add]
  rw [e0] at d0
  rw [e2] at d2
  simp only [List.getElem_cons_zero, List.getElem_cons_succ] at d0 d2
  have z0 := cell_lt d0
  have z3 : ad2.block < w2.heap.size := cell_lt (a := ⟨ad2.block, ad2.off + 2, none⟩) d2
  have z0' : ad.block < w2.heap.size + 1 := by omega
  have z3' : ad2.block < w2.heap.size + 1 := by omega
  clear hL hb1 h1 g1 g2 h3 hbb e0 e2
  go_wp2_with fail
  go_ret
  exact ⟨rfl, below_then H3.out HBB.out⟩

end Go.Proofs.YteminkohgagedaaGreat.Mo
