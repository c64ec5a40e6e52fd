/- The reference's Run. -/
import Derived.Test.YteminkohgagedaaGreatQRfRunI
import Derived.Test.YteminkohgagedaaGreatQMoTopZ
import Derived.Test.YteminkohgagedaaGreatQBookCodes
import Derived.Test.YteminkohgagedaaGreatQMoPeak1
namespace Go.Proofs.YteminkohgagedaaGreat.Rf
open Go.RowKit Go.Proofs.YteminkohgagedaaGreat.Base Go.Proofs.YteminkohgagedaaGreat.Gr Go.Proofs.YteminkohgagedaaGreat.Ver Go.Proofs.YteminkohgagedaaGreat.Mo
set_option linter.unusedVariables false
set_option linter.unusedSimpArgs false

/-- What the reference's Run comes to, and the most cells. -/
def rrunM (g : Gr) (F : Nat) (l : List Ins) : Out × Nat :=
  if (chk l).2 = 0 then (⟨(rexec l F (start' g) (cells (number g).nodes)).1.e, (rexec l F (start' g) (cells (number g).nodes)).1.at_, (rexec l F (start' g) (cells (number g).nodes)).1.left, (rexec l F (start' g) (cells (number g).nodes)).1.σ.outs, (rexec l F (start' g) (cells (number g).nodes)).1.σ.last⟩, (rexec l F (start' g) (cells (number g).nodes)).2)
  else (⟨10, (chk l).1, F, [], g⟩, 0)
def RRunPost (w : World) (x : Out × Nat) (en : Ending) (w' : World) : Prop :=
  ∃ AO cO v, en = .returned (.tuple #[.agg #[.int .i64 x.1.e, .int .i64 x.1.at_, .int .i64 x.1.left, .slice AO x.1.outs.length cO], v, .int .i64 (x.2 : Int)]) ∧ Ints w' AO x.1.outs ∧ GrV w' v x.1.gr ∧ Below w.heap.size w w'
theorem results_row_row_tmp {P : Program} {fn : Func} {p u s : Tmp} {ty ty2 : TypeId} (h : fn.results = #[.cell p ty, .cell u ty2, .tmp s]) (tmps : Array Value) (w : World) (g g2 : Nat) (t t2 : TypeId) (cs cs2 : Array Value) (fr fr2 : Nat × Nat) (d d2 : TypeDesc)
    (hp : tmps.getD p undef = .pointer (some ⟨g, 0, none⟩)) (hg : w.heap[g]? = some (.cells cs t fr))
    (hu : P.underlying ty = some d) (hd : (match d with | .struct _ | .array _ _ => true | _ => false) = true) (hi : (P.info? ty).map (·.size) = some cs.size)
    (hp2 : tmps.getD u undef = .pointer (some ⟨g2, 0, none⟩)) (hg2 : w.heap[g2]? = some (.cells cs2 t2 fr2))
    (hu2 : P.underlying ty2 = some d2) (hd2 : (match d2 with | .struct _ | .array _ _ => true | _ => false) = true) (hi2 : (P.info? ty2).map (·.size) = some cs2.size) :
    (results fn tmps).run P w = .ok (.tuple #[.agg cs, .agg cs2, tmps.getD s undef]) w := by
  have hp' : tmps[p]?.getD undef = .pointer (some ⟨g, 0, none⟩) := by simpa using hp
  have hp2' : tmps[u]?.getD undef = .pointer (some ⟨g2, 0, none⟩) := by simpa using hp2
  simp [results, h, hp', hp2', asAddr, run_loadVar_row w g t ty cs fr d hg hu hd hi, run_loadVar_row w g2 t2 ty2 cs2 fr2 d2 hg2 hu2 hd2 hi2]
theorem keepB3 {w W : World} (hb : Below w.heap.size w W) {a b c : Addr} {x y z : Value} (h1 : w.cell? a = some x) (h2 : w.cell? b = some y) (h3 : w.cell? c = some z) : W.cell? a = some x ∧ W.cell? b = some y ∧ W.cell? c = some z :=
  ⟨(hb.cell (cell_lt h1)).trans h1, (hb.cell (cell_lt h2)).trans h2, (hb.cell (cell_lt h3)).trans h3⟩
theorem firm_nodes {B : Nat} {w : World} {A D : Option Addr} {m n c d : Nat} {g : Gr} (h : Firm B w (.agg #[.slice A m c, .slice D n d]) g) : Nodes w D g.nodes := by
  obtain ⟨_, _, _, _, e4, _, hD4⟩ := h.now
  injection e4 with e4
  obtain ⟨_, e6⟩ : (Value.slice A m c = Value.slice _ _ _) ∧ (Value.slice D n d = Value.slice _ _ _) := by simpa using e4
  injection e6 with e6
  rw [e6]
  exact hD4
theorem tell_at {W2 w W' w4 : World} {o : Nat → Tag} {P Q : Nat} {AO : Option Addr} {cO L : Nat} {e a lf : Int} {σ : St} {most : Nat} {ob : Obj} {v4 : Value} {v : Int} (h : RunS W2 w o P Q AO cO e a lf σ most) (hL : σ.outs.length = L) (hl : Like (w.alloc ob) W') (hg : W'.grownBy w4 (Value.slice AO L cO).ownBlock)
    (hown : w4.ownsRow 0 3 1 v4 (L + 1) (enc ic σ.outs ++ [.int .i64 v])) (hat : v4.ownBlock = (Value.slice AO L cO).ownBlock ∨ v4.ownBlock = some W'.heap.size) :
    (∃ o' A4 c4, v4 = .slice A4 (L + 1) c4 ∧ RunS W2 (w4.setCell ⟨Q, 3, none⟩ v4) o' P Q A4 c4 e a lf { σ with outs := σ.outs ++ [v] } most) ∧ Blk w4 Q 42 #[.int .i64 e, .int .i64 a, .int .i64 lf, .slice AO L cO] := by
  subst hL
  exact h.tell hl hg hown hat
theorem arr_at {w : World} {P : Nat} {l : List Int} {k : Nat} (h : ∀ i : Nat, i < l.length → w.cell? ⟨P, k + i, none⟩ = some (.int .i64 (gt l (i : Int)))) (hl : l.length ≤ 17592186044416) : Ints w (some ⟨P, k, none⟩) l := by
  refine ⟨⟨enc_len ic_len l, fun _ => ⟨_, rfl, fun j u hu => ?_⟩⟩, hl⟩
  have hj : j < l.length := by
    have := (List.getElem?_eq_some_iff.1 hu).1
    rw [enc_len ic_len] at this
    omega
  have e : (Addr.add ⟨P, k, none⟩ j) = ⟨P, k + j, none⟩ := by simp [Addr.add]
  rw [e, h j hj]
  rw [enc_ic, List.getElem?_map, List.getElem?_eq_getElem hj] at hu
  injection hu with hu
  rw [← hu]
  unfold gt
  rw [List.getD_eq_getElem?_getD, Int.toNat_natCast, List.getElem?_eq_getElem hj]
  rfl
theorem reach_canonM (g : Gr) (more : List Int) : cells (canonM g more).nodes = reach g more := by
  unfold reach canonM number
  simp only
  rw [canonGo_roots g.roots (g.roots ++ more) g.nodes]
/-- The end of the loop. -/
def RunEnd (W2 : World) (P Q : Nat) (X : Res × Nat) (wx : World) : Prop :=
  X.1.σ.outs.length ≤ 1000 ∧ ∃ o AO cO, RunS W2 wx o P Q AO cO X.1.e (X.1.at_ : Int) (X.1.left : Int) X.1.σ X.2

set_option maxRecDepth 100000 in
set_option maxHeartbeats 8000000 in
theorem rrun_any {w : World} {A D AL : Option Addr} {c d cl : Nat} {G : Gr} {l : List Ins} (hA : Ints w A G.roots) (hD : Nodes w D G.nodes) (hr : right G = true) (hL : Arr w Ins.cells 4 AL l) (fu : Int) (F : Nat) (hF : F ≤ 900) (hfu : max fu 0 = (F : Int)) :
    Calls Tryz.prog 14 #[.agg #[.slice A G.roots.length c, .slice D G.nodes.length d], .int .i64 fu, .slice AL l.length cl] w fun en w' => RRunPost w (rrunM G F l) en w' := by
  obtain ⟨i0, hi0, hz0, hz1, hz2⟩ := info_parts1 intInfo
  have hb0 := below_then (below_1 w (.cells #[.slice A G.roots.length c, .slice D G.nodes.length d] 25)) (below_then (below_1 _ (.cells #[.int .i64 0, .int .i64 0, .int .i64 0, .slice none 0 0] 42)) (below_1 _ (.cells #[.slice none 0 0, .slice none 0 0] 25)))
  have HB0 := Lib.hid hb0
  have HA := Lib.hid hA
  have HD := Lib.hid hD
  have HL := Lib.hid hL
  have HG0 := Lib.hid (((Blk.new w 25 #[.slice A G.roots.length c, .slice D G.nodes.length d]).alloc (.cells #[.int .i64 0, .int .i64 0, .int .i64 0, .slice none 0 0] 42)).alloc (.cells #[.slice none 0 0, .slice none 0 0] 25))
  have hR0 := (Blk.new (w.alloc (.cells #[.slice A G.roots.length c, .slice D G.nodes.length d] 25)) 42 #[.int .i64 0, .int .i64 0, .int .i64 0, .slice none 0 0]).alloc (.cells #[.slice none 0 0, .slice none 0 0] 25)
  have hT0 := Blk.new ((w.alloc (.cells #[.slice A G.roots.length c, .slice D G.nodes.length d] 25)).alloc (.cells #[.int .i64 0, .int .i64 0, .int .i64 0, .slice none 0 0] 42)) 25 #[.slice none 0 0, .slice none 0 0]
  simp only [World.size_alloc] at hR0 hT0
  have HR0 := Lib.hid hR0
  have HT0 := Lib.hid hT0
  have HRT := Lib.hid hr
  obtain ⟨X, hX⟩ : ∃ X, rrunM G F l = X := ⟨_, rfl⟩
  rw [hX]
  have HXX := Lib.hid hX
  clear hA hD hL hb0 hR0 hT0 hX hr
  obtain ⟨W0, hW0⟩ : ∃ W0, ((w.alloc (.cells #[.slice A G.roots.length c, .slice D G.nodes.length d] 25)).alloc (.cells #[.int .i64 0, .int .i64 0, .int .i64 0, .slice none 0 0] 42)).alloc (.cells #[.slice none 0 0, .slice none 0 0] 25) = W0 := ⟨_, rfl⟩
  rw [hW0] at HB0 HG0 HR0 HT0
  go_enter Tryz.func14, Tryz.ntmps14
  go_upto_region 1 with fail
  go_cut [1] (fun u1 wx => u1 = .int .i64 (F : Int) ∧ wx = W0)
  case first =>
    go_wp2_with fail
    all_goals
      go_meet
      exact ⟨by congr 1; omega, rfl⟩
  case rest =>
  obtain ⟨rfl, rfl⟩ := hcut
  clear hfu hW0
  go_wp2_with fail
  refine (rcheck_any AL l cl _ (HL.out.below HB0.out)).mono ?_
  rintro e w1 ⟨rfl, hb1⟩
  have HB1 := Lib.hid (below_then HB0.out hb1)
  have HG1 := Lib.hid (HG0.out.below hb1 HG0.out.lt)
  have HR1 := Lib.hid (HR0.out.below hb1 HR0.out.lt)
  have HT1 := Lib.hid (HT0.out.below hb1 HT0.out.lt)
  have x0 := HG1.out.cell 0
  have x1 := HG1.out.cell 1
  have zg := HG1.out.lt
  simp only [List.getElem?_toArray, List.getElem?_cons_zero, List.getElem?_cons_succ] at x0 x1
  clear hb1 HB0 HG0 HR0 HT0
  obtain ⟨cw, hcw⟩ : ∃ cw, (chk l).1 = cw := ⟨_, rfl⟩
  obtain ⟨ce, hce⟩ : ∃ ce, (chk l).2 = ce := ⟨_, rfl⟩
  rw [hcw, hce]
  have HC1 := Lib.hid hcw
  have HC2 := Lib.hid hce
  clear hcw hce
  by_cases hc0 : ce = 0
  case neg =>
    have hcb : (ce != 0) = true := bne_iff_ne.mpr hc0
    have HC0 := Lib.hid hc0
    have r0 := HR1.out.cell 0
    have r1 := HR1.out.cell 1
    have r2 := HR1.out.cell 2
    have r3 := HR1.out.cell 3
    have s0 := HR1.out.frozen 0
    have s1 := HR1.out.frozen 1
    have s2 := HR1.out.frozen 2
    have s3 := HR1.out.frozen 3
    have zr := HR1.out.lt
    have t0 := HT1.out.cell 0
    have t1 := HT1.out.cell 1
    have q0 := HT1.out.frozen 0
    have q1 := HT1.out.frozen 1
    have zt := HT1.out.lt
    simp only [List.getElem?_toArray, List.getElem?_cons_zero, List.getElem?_cons_succ] at r0 r1 r2 r3 t0 t1
    clear hc0
    go_wp2_with fail
    go_region
    go_wp2
    have RR := ret_rows (p := w.heap.size + 1) (q := w.heap.size + 1 + 1) HB1.out (by omega) (by omega) (by omega) HR1.out HT1.out (.int .i64 10) (.int .i64 cw) (.int .i64 (F : Int)) (.slice none 0 0) (.slice A G.roots.length c) (.slice D G.nodes.length d) 1
    refine bodyPost_ret (results_row_row_tmp rfl _ _ (w.heap.size + 1) (w.heap.size + 1 + 1) 42 25 #[.int .i64 10, .int .i64 cw, .int .i64 (F : Int), .slice none 0 0] #[.slice A G.roots.length c, .slice D G.nodes.length d] (0, 0) (0, 0) _ _ rfl RR.1 Tryz.underlying42 rfl resSize rfl RR.2.1 Tryz.underlying25 rfl graphSize) rfl ?_
    have e : X = (⟨10, cw, F, [], G⟩, 0) := by
      rw [← HXX.out, rrunM, if_neg (by rw [HC2.out]; exact HC0.out), HC1.out]
    subst e
    exact ⟨none, 0, _, rfl, Ints.nil _, ⟨A, c, D, d, rfl, HA.out.below RR.2.2.1, HD.out.below RR.2.2.1⟩, RR.2.2.1⟩
  case pos =>
    have hcb : (ce != 0) = false := by rw [hc0]; rfl
    obtain ⟨hl0, hll, hok, hchk⟩ := chk_ok (l := l) (by rw [HC2.out]; exact hc0)
    obtain rfl : cw = (l.length : Int) := by rw [← HC1.out, hchk]
    obtain rfl := hc0
    have HOK := Lib.hid hok
    have HCH := Lib.hid hchk
    clear hok hchk hcb
    go_wp2_with fail
    refine (rnew_any (w := w1) (G := G) ⟨A, c, D, d, rfl, HA.out.below HB1.out, HD.out.below HB1.out⟩ HRT.out).mono ?_
    rintro e w2 ⟨o, P, rfl, hm, hb2, hk⟩
    have HB2 := Lib.hid (below_then HB1.out hb2)
    have HR2 := Lib.hid (HR1.out.below hb2 HR1.out.lt)
    have HT2 := Lib.hid (HT1.out.below hb2 HT1.out.lt)
    have HM := Lib.hid hm
    have HK := Lib.hid hk
    have HB12 := Lib.hid hb2
    clear hb2 hm hk HG1 x0 x1 zg
    go_upto_block 0 with fail
    obtain ⟨R, hR⟩ : ∃ R, rexec l F (start' G) (cells (number G).nodes) = R := ⟨_, rfl⟩
    have hXR : X = (⟨R.1.e, R.1.at_, R.1.left, R.1.σ.outs, R.1.σ.last⟩, R.2) := by
      rw [← HXX.out, rrunM, if_pos HC2.out, hR]
    have HXR := Lib.hid hXR
    have hst : RunS w1 (w2.alloc (.cells #[.int .i64 0, .int .i64 0, .int .i64 (F : Int), .slice none 0 0] 42)) (fun k => if k < w2.heap.size then o k else if k = w2.heap.size then .roots true else .other) P w2.heap.size none 0 0 0 (F : Int) (start' G) (cells (number G).nodes) := by
      have hb := below_1 w2 (.cells #[.int .i64 0, .int .i64 0, .int .i64 (F : Int), .slice none 0 0] 42)
      have h12 := HB12.out.size
      refine ⟨(HM.out.retag (fun k hk => if_pos hk) (fun k hk => ?_)).below hb, below_then HB12.out hb, Blk.new w2 _ _, ?_, own_nil _ _ _ _, (fun ad e => by cases e)⟩
      · by_cases h1 : k < w2.heap.size
        · simp only [h1, if_true] at hk
          exact HM.out.lo k hk
        · omega
      · rw [if_neg (Nat.lt_irrefl _), if_pos rfl]
    have HST := Lib.hid hst
    have hQw : w.heap.size + 1 + 1 < w2.heap.size := HT2.out.lt
    obtain ⟨Q, hQ⟩ : ∃ Q, w2.heap.size = Q := ⟨_, rfl⟩
    have HWL := Lib.hid (show Well (1000 + (F - F)) (start' G) from by
      have hs := sound_right HRT.out
      have h0 := start_well HRT.out
      exact Well.more ⟨h0.now, sound_number hs, h0.refs, h0.refsN, h0.nums, h0.numsN, h0.outs, h0.outsN⟩ (by omega))
    have HRR := Lib.hid hR
    rw [hQ] at HST hQw
    have HQQ := Lib.hid hQ
    clear hst hR hXR HM HK hQ
    rw [HQQ.out]
    go_cut [] (fun wx => Hid (RunEnd w1 P Q R wx))
    case first =>
      go_wp2_with fail
      go_loopg [13] F (fun gl at_ wr => ∃ (k left : Nat) (o : Nat → Tag) (AO : Option Addr) (cO : Nat) (a : Int) (σ : St) (m : Nat), k ≤ l.length ∧ at_ = .int .i64 k ∧ gl = left ∧ left ≤ F ∧ Hid (σ.outs.length + left ≤ F) ∧ Hid (RunS w1 wr o P Q AO cO 0 a (left : Int) σ m) ∧ Hid (σ.pc = k) ∧ Hid (Well (1000 + (F - left)) σ) ∧ Hid (rexec l left σ m = R))
      case atStart => exact ⟨0, F, _, none, 0, 0, start' G, _, Nat.zero_le _, rfl, rfl, Nat.le_refl _, Lib.hid (Nat.le_of_eq (Nat.zero_add _)), HST, Lib.hid rfl, HWL, HRR⟩
      case round =>
        obtain ⟨k, left, o, AO, cO, a, σ, m, hk, rfl, rfl, hlf, HLF, HS, HPC, HW, HX⟩ := hrel
        have q0 := HS.out.q.cell 0
        have q1 := HS.out.q.cell 1
        have q2 := HS.out.q.cell 2
        have f0 := HS.out.q.frozen 0
        have f1 := HS.out.q.frozen 1
        have f2 := HS.out.q.frozen 2
        have zq := HS.out.q.lt
        simp only [List.getElem?_toArray, List.getElem?_cons_zero, List.getElem?_cons_succ] at q0 q1 q2
        have HS1 := Lib.hid (HS.out.set 1 (.int .i64 (k : Int)) 0 k gk rfl)
        by_cases hlt : k < l.length
        case neg =>
          obtain rfl : k = l.length := by omega
          go_wp2_with fail
          go_meet
          rw [← HX.out, rexec_out (by rw [HPC.out]; exact hlt)]
          exact Lib.hid ⟨HW.out.outs, o, AO, cO, HS1.out⟩
        case pos =>
          have hkI : (k : Int) < l.length := by omega
          obtain ⟨ad, rfl, d0, d1, d2, d3⟩ := codes_at HL.out k hlt
          have zd := cell_lt d0
          have zd1 : (ad.add (k * 4)).block < w.heap.size := zd
          have hx := HOK.out l[k] (List.getElem_mem hlt)
          have hin : insAt l k = l[k] := by unfold insAt; rw [List.getD_eq_getElem?_getD, List.getElem?_eq_getElem hlt]; rfl
          generalize l[k] = x at d0 d1 d2 d3 hx hin
          have HDC := Lib.hid (And.intro d0 (And.intro d1 (And.intro d2 d3)))
          have HZD := Lib.hid zd1
          clear d0 d1 d2 d3 zd zd1
          by_cases hz : gk = 0
          case pos =>
            subst hz
            go_wp2_with fail
            go_meet
            rw [← HX.out, rexec_fuel (by rw [HPC.out]; exact hlt), HPC.out]
            exact Lib.hid ⟨HW.out.outs, o, AO, cO, HS1.out.set 0 (.int .i64 11) 11 k 0 rfl⟩
          case neg =>
            obtain ⟨n, rfl⟩ : ∃ n, gk = n + 1 := ⟨gk - 1, by omega⟩
            have HS2 := Lib.hid (HS1.out.set 2 (.int .i64 (n : Int)) 0 k n rfl)
            go_upto_region 13 with fail
            generalize (wr.setCell ⟨Q, 1, none⟩ (.int .i64 (k : Int))).setCell ⟨Q, 2, none⟩ (.int .i64 (n : Int)) = V at HS2 ⊢
            have hbw := below_then HB1.out HS2.out.below
            obtain ⟨d0, d1, d2, d3⟩ := HDC.out
            have c0 := (hbw.cell HZD.out).trans d0
            have c1 := (hbw.cell (p := ⟨(ad.add (k * 4)).block, (ad.add (k * 4)).off + 1, none⟩) HZD.out).trans d1
            have c2 := (hbw.cell (p := ⟨(ad.add (k * 4)).block, (ad.add (k * 4)).off + 2, none⟩) HZD.out).trans d2
            have c3 := (hbw.cell (p := ⟨(ad.add (k * 4)).block, (ad.add (k * 4)).off + 3, none⟩) HZD.out).trans d3
            clear d0 d1 d2 d3 hbw q0 q1 q2 f0 f1 f2 zq
            by_cases h0 : x.op = 0
            case pos =>
              rw [h0] at c0
              go_wp2_with fail
              go_meet
              rw [← HX.out, rexec_halt (by rw [HPC.out]; exact hlt) (by rw [HPC.out, hin]; exact h0), HPC.out]
              exact Lib.hid ⟨HW.out.outs, o, AO, cO, HS2.out.pc _⟩
            case neg =>
              have hb0 : (x.op == 0) = false := beq_eq_false_iff_ne.mpr h0
              obtain ⟨E, σ1, hE⟩ : ∃ E σ1, rstep x { σ with pc := k + 1 } = (E, σ1) := ⟨_, _, rfl⟩
              have KD : Hid (Calls Tryz.prog 37 #[.pointer (some ⟨P, 0, none⟩), .agg #[.int .i64 x.op, .int .i64 x.a, .int .i64 x.b, .int .i64 x.c], .int .i64 (k : Int)] V fun en w' =>
                  en = .returned (.tuple #[.int .i64 (σ1.pc : Int), .int .i64 (told x σ), .int .i64 E]) ∧ RDone V o w1.heap.size P m σ1 w') := Lib.hid (by
                have := rdo_any HS2.out.m (1000 + (F - (n + 1))) (by omega) HW.out x l.length hx h0 k (by omega)
                unfold DoPost at this
                rw [hE] at this
                exact this)
              have HE := Lib.hid hE
              have HIN := Lib.hid hin
              have HXOK := Lib.hid hx
              have HLT := Lib.hid hlt
              clear h0 hE hin hx hz
              have hE0 : E ≠ 0 → σ1 = { σ with pc := k + 1 } := fun h => by
                have := rstep_bad (x := x) (σ := { σ with pc := k + 1 }) (by rw [HE.out]; exact h)
                rw [HE.out] at this
                exact this
              have HOUT : Hid (σ1.outs = if 0 ≤ told x σ ∧ σ.outs.length < 1000 then σ.outs ++ [told x σ] else σ.outs) := Lib.hid (by
                have := rstep_outs (σ := { σ with pc := k + 1 }) x (well_pc HW.out (k + 1))
                rw [HE.out] at this
                exact this)
              have HE0 := Lib.hid hE0
              clear hE0
              by_cases hee : E = 0
              case neg =>
                have hEb : (E != 0) = true := bne_iff_ne.mpr hee
                have HEE := Lib.hid hee
                clear hee
                go_upto_region 15 with (first | (go_at_call 37; refine KD.out.mono ?_; rintro e w5 ⟨rfl, hd⟩))
                obtain ⟨o5, hS5⟩ := HS2.out.turn hd (by rw [HE0.out HEE.out])
                have s0 := hS5.q.cell 0
                have s1 := hS5.q.frozen 0
                have s2 := hS5.q.lt
                simp only [List.getElem?_toArray, List.getElem?_cons_zero, List.getElem?_cons_succ] at s0
                have HS5 := Lib.hid hS5
                clear hS5 hd
                go_wp2_with fail
                go_meet
                rw [← HX.out, rexec_err (by rw [HPC.out]; exact HLT.out) (by rw [HPC.out, HIN.out]; exact beq_eq_false_iff_ne.mp hb0) (by rw [HPC.out, HIN.out, HE.out]; exact HEE.out), HPC.out, HIN.out, HE.out]
                exact Lib.hid ⟨by rw [HE0.out HEE.out]; exact HW.out.outs, o5, AO, cO, HS5.out.set 0 (.int .i64 E) E k n rfl⟩
              case pos =>
                subst hee
                -- the last part
                obtain ⟨tv, htv⟩ : ∃ tv, told x σ = tv := ⟨_, rfl⟩
                rw [htv] at HOUT KD
                have HW1 : Hid (Well (1000 + (F - n)) σ1) := Lib.hid (by
                  have := rstep_well HXOK.out (well_pc HW.out (k + 1))
                  rw [HE.out] at this
                  exact this.more (by omega))
                obtain ⟨L, hL⟩ : ∃ L, σ.outs.length = L := ⟨_, rfl⟩
                have hLf : L + (n + 1) ≤ F := by have := HLF.out; omega
                rw [hL] at HOUT
                have HLL := Lib.hid hL
                have hLI : (L : Int) < 1000 := by omega
                clear hL
                by_cases ht : 0 ≤ tv
                case pos =>
                  have HO2 : Hid (σ1.outs = σ.outs ++ [tv]) := Lib.hid (by rw [HOUT.out, if_pos ⟨ht, by omega⟩])
                  go_upto_region 17 with (first | (go_at_call 37; refine KD.out.mono ?_; rintro e w5 ⟨rfl, hd⟩))
                  obtain ⟨o5, hS5⟩ := HS2.out.turn (hd.pc σ1.pc σ.outs) rfl
                  have s3 := hS5.q.cell 3
                  have s4 := hS5.q.frozen 3
                  have s5 := hS5.q.lt
                  simp only [List.getElem?_toArray, List.getElem?_cons_zero, List.getElem?_cons_succ, HLL.out] at s3
                  have hrw := hS5.row
                  simp only [HLL.out] at hrw
                  have HROW := Lib.hid hrw
                  have HS5 := Lib.hid hS5
                  clear hS5 hd hrw
                  go_upto_region 19 with (first | (refine wpList_append_any _ (by rfl) _ _ _ (by rfl) 0 3 i0 _ 1 8 Tryz.underlying22 hi0 hz0 hz1 hz2 rfl (by omega) (.slice AO L cO) L (enc ic σ.outs) (by rfl) (own_below HROW.out (below_1 _ _)) _ 1 1 _ (by rfl) (Reads.new _ _ rfl) (by simp [Value.oneCell']) (fun e => by cases e) (by simp only [maxLen]; omega) (by omega) (Nat.zero_le _) ?_; intro v4 w4 hown4 hg4 hat4; obtain ⟨⟨o6, A6, c6, e6, hS6⟩, hq6⟩ := tell_at HS5.out HLL.out (like_self _) hg4 hown4 hat4; subst e6; have r3 := hq6.cell 3; have r4 := hq6.frozen 3; have r5 := hq6.lt; simp only [List.getElem?_toArray, List.getElem?_cons_zero, List.getElem?_cons_succ] at r3; have HS6 := Lib.hid hS6; clear hS6 hq6 hown4 hg4 hat4))
                  have hsx := HS6.out
                  rw [show ({ σ1 with pc := σ1.pc, outs := σ.outs ++ [tv] } : St) = σ1 from by rw [← HO2.out]] at hsx
                  have HSX := Lib.hid hsx
                  clear hsx HS6 HROW s3 s4 s5 r3 r4 r5
                  generalize w4.setCell ⟨Q, 3, none⟩ (.slice A6 (L + 1) c6) = wx at HSX ⊢
                  obtain ⟨A', c', D', d', xs, v0, v1, cs, hM⟩ := HSX.out.m
                  have p0 := (hM.blk.cell 0).trans hM.mc.c0
                  have p1 := (hM.blk.cell 1).trans hM.mc.c1
                  have p12 := (hM.blk.cell 12).trans hM.mc.c12
                  have g12 := hM.blk.frozen 12
                  have zP := hM.blk.lt
                  have hI := hM.g.roots.ints (by have := HW1.out.now.roots; omega)
                  have hDn := hM.g.nodes.reads (by have := HW1.out.now.size; omega) (sound_small HW1.out.now)
                  have hR := arr_at (w := wx) (P := P) (k := 2) (l := σ1.refs) (fun i hi => (hM.blk.cell (2 + i)).trans (hM.mc.a i (by rw [← HW1.out.refs]; exact hi))) (by rw [HW1.out.refs]; omega)
                  have hCN := fun (W3 : World) (hb : Below wx.heap.size wx W3) => refcanonM_firm A' D' (some ⟨P, 2, none⟩) σ1.now σ1.refs c' d' 4 W3 (hR.below hb) HW1.out.refsN (by rw [HW1.out.refs]; omega) (hI.below hb) (hDn.below hb) HW1.out.now.named (by have := HW1.out.now.roots; omega) (by have := HW1.out.now.size; omega) HW1.out.now.nodes
                  rw [HW1.out.refs] at hCN
                  have HCN := Lib.hid hCN
                  have hns := number_small (g := ⟨σ1.now.roots ++ σ1.refs, σ1.now.nodes⟩) (show ∀ x ∈ σ1.now.nodes, _ from sound_small HW1.out.now)
                  have ecm : (canonM σ1.now σ1.refs).nodes = (number ⟨σ1.now.roots ++ σ1.refs, σ1.now.nodes⟩).nodes := canonGo_roots _ _ _ _ _ _ _
                  rw [← ecm] at hns
                  have HNS := Lib.hid (And.intro hns.1 (Nat.le_trans hns.2 (by have := HW1.out.now.size; show σ1.now.nodes.length + 1 ≤ 100000; omega)))
                  clear hM hI hDn hR hCN hns ecm
                  have hB0 : Below wx.heap.size wx wx.drew := (Below.refl _ _).drew
                  go_upto_region 19 with fail
                  refine wp_region_lastL (fun W4 => W4.cell? ⟨P, 12, none⟩ = some (.int .i64 (m : Int)) ∧ W4.cell? ⟨P, 0, none⟩ = some (.slice A' σ1.now.roots.length c') ∧ W4.cell? ⟨P, 1, none⟩ = some (.slice D' σ1.now.nodes.length d')) [_, _, _, _, _, _, _, _, _, _, _, _, _, _, _, _, _, _] _ 18 rfl rfl (by kernel_rfl) (by kernel_rfl) (keepB3 hB0 p12 p0 p1) (fun hHeld0 => ?_)
                  refine takeL (v := ?v1) 0 rfl (by kernel_rfl) (by kernel_rfl) (by kernel_rfl) (fun _ _ _ h => h) (by rfl) ?hy1 (by assumption) ?rest1
                  case hy1 => (intro w hSw; (try dsimp only at hSw); go_simp; (try with_reducible rfl))
                  try simp only [Act.put, List.setIfInBounds_toArray, List.set_cons_zero, List.set_cons_succ]
                  refine takeL (v := ?v2) 1 rfl (by kernel_rfl) (by kernel_rfl) (by kernel_rfl) (fun _ _ _ h => h) (by rfl) ?hy2 (by assumption) ?rest2
                  case hy2 => (intro w hSw; (try dsimp only at hSw); go_simp; (try with_reducible rfl))
                  try simp only [Act.put, List.setIfInBounds_toArray, List.set_cons_zero, List.set_cons_succ]
                  refine takeL (v := ?v3) 2 rfl (by kernel_rfl) (by kernel_rfl) (by kernel_rfl) (fun _ _ _ h => h) (by rfl) ?hy3 (by assumption) ?rest3
                  case hy3 => (intro w hSw; (try dsimp only at hSw); go_simp; (try with_reducible rfl))
                  try simp only [Act.put, List.setIfInBounds_toArray, List.set_cons_zero, List.set_cons_succ]
                  refine takeL (v := ?v4) 3 rfl (by kernel_rfl) (by kernel_rfl) (by kernel_rfl) (fun _ _ _ h => h) (by rfl) ?hy4 (by assumption) ?rest4
                  case hy4 => (intro w hSw; (try dsimp only at hSw); go_simp; (try with_reducible rfl))
                  try simp only [Act.put, List.setIfInBounds_toArray, List.set_cons_zero, List.set_cons_succ]
                  refine takeL (v := ?v5) 4 rfl (by kernel_rfl) (by kernel_rfl) (by kernel_rfl) (fun _ _ _ h => h) (by rfl) ?hy5 (by assumption) ?rest5
                  case hy5 => (intro w hSw; (try dsimp only at hSw); go_simp; (try with_reducible rfl))
                  try simp only [Act.put, List.setIfInBounds_toArray, List.set_cons_zero, List.set_cons_succ]
                  refine takeL (v := ?v6) 5 rfl (by kernel_rfl) (by kernel_rfl) (by kernel_rfl) (fun _ _ _ h => h) (by rfl) ?hy6 (by assumption) ?rest6
                  case hy6 => (intro w hSw; (try dsimp only at hSw); go_simp; (try with_reducible rfl))
                  try simp only [Act.put, List.setIfInBounds_toArray, List.set_cons_zero, List.set_cons_succ]
                  refine takeL (v := ?v7) 6 rfl (by kernel_rfl) (by kernel_rfl) (by kernel_rfl) (fun _ _ _ h => h) (by rfl) ?hy7 (by assumption) ?rest7
                  case hy7 => (intro w hSw; (try dsimp only at hSw); go_simp; (try with_reducible rfl))
                  try simp only [Act.put, List.setIfInBounds_toArray, List.set_cons_zero, List.set_cons_succ]
                  refine takeL (v := ?v8) 7 rfl (by kernel_rfl) (by kernel_rfl) (by kernel_rfl) (fun _ _ _ h => h) (by rfl) ?hy8 (by assumption) ?rest8
                  case hy8 => (intro w hSw; (try dsimp only at hSw); go_simp; (try with_reducible rfl))
                  try simp only [Act.put, List.setIfInBounds_toArray, List.set_cons_zero, List.set_cons_succ]
                  refine takeL (v := ?v9) 8 rfl (by kernel_rfl) (by kernel_rfl) (by kernel_rfl) (fun _ _ _ h => h) (by rfl) ?hy9 (by assumption) ?rest9
                  case hy9 => (intro w hSw; (try dsimp only at hSw); go_simp; (try with_reducible rfl))
                  try simp only [Act.put, List.setIfInBounds_toArray, List.set_cons_zero, List.set_cons_succ]
                  refine takeL (v := ?v10) 9 rfl (by kernel_rfl) (by kernel_rfl) (by kernel_rfl) (fun _ _ _ h => h) (by rfl) ?hy10 (by assumption) ?rest10
                  case hy10 => (intro w hSw; (try dsimp only at hSw); go_simp; (try with_reducible rfl))
                  try simp only [Act.put, List.setIfInBounds_toArray, List.set_cons_zero, List.set_cons_succ]
                  refine takeL (v := ?v11) 10 rfl (by kernel_rfl) (by kernel_rfl) (by kernel_rfl) (fun _ _ _ h => h) (by rfl) ?hy11 (by assumption) ?rest11
                  case hy11 => (intro w hSw; (try dsimp only at hSw); go_simp; (try with_reducible rfl))
                  try simp only [Act.put, List.setIfInBounds_toArray, List.set_cons_zero, List.set_cons_succ]
                  refine takeL (v := ?v12) 11 rfl (by kernel_rfl) (by kernel_rfl) (by kernel_rfl) (fun _ _ _ h => h) (by rfl) ?hy12 (by assumption) ?rest12
                  case hy12 => (intro w hSw; (try dsimp only at hSw); go_simp; (try with_reducible rfl))
                  try simp only [Act.put, List.setIfInBounds_toArray, List.set_cons_zero, List.set_cons_succ]
                  refine takeL (v := ?v13) 12 rfl (by kernel_rfl) (by kernel_rfl) (by kernel_rfl) (fun _ _ _ h => h) (by rfl) ?hy13 (by assumption) ?rest13
                  case hy13 => (intro w hSw; (try dsimp only at hSw); go_simp; (try with_reducible rfl))
                  try simp only [Act.put, List.setIfInBounds_toArray, List.set_cons_zero, List.set_cons_succ]
                  refine wpAnyH_ready (rs := [13]) (by kernel_rfl) (by simp) ?_
                  refine consL 13 rfl (fun K hK => ?_) AllReadyH.nil
                  go_simp
                  go_at_call 39
                  refine (HCN.out _ hB0).mono ?_
                  rintro e w7 ⟨A7, c7, D7, d7, rfl, hF7, hb7⟩
                  have hB7 := below_then hB0 hb7
                  have HNN := Lib.hid (firm_nodes hF7)
                  clear hF7
                  try go_wp2_with fail
                  refine hK.out _ _ ?hS14 (fun hHeld1 => ?rest14)
                  case hS14 => exact keepB3 hB7 p12 p0 p1
                  clear hK K hHeld0
                  try simp only [Act.put, List.setIfInBounds_toArray, List.set_cons_zero, List.set_cons_succ]
                  refine wpAnyH_ready (rs := [14]) (by kernel_rfl) (by simp) ?_
                  refine consL 14 rfl (fun K hK => ?_) AllReadyH.nil
                  go_simp
                  go_at_call 38
                  refine (rsize_any _ D7 _ d7 _ HNN.out HNS.out.2 HNS.out.1).mono ?_
                  rintro e w8 ⟨rfl, hb8⟩
                  have hB8 := below_then hB7 hb8
                  rw [reach_canonM]
                  try go_wp2_with fail
                  refine hK.out _ _ ?hS15 (fun hHeld2 => ?rest15)
                  case hS15 => exact keepB3 hB8 p12 p0 p1
                  clear hK K hHeld1
                  try simp only [Act.put, List.setIfInBounds_toArray, List.set_cons_zero, List.set_cons_succ]
                  obtain ⟨r, hr⟩ : ∃ r, reach σ1.now σ1.refs = r := ⟨_, rfl⟩
                  rw [hr]
                  have HRE := Lib.hid hr
                  clear hr
                  have HPC2 : Hid (σ1.pc ≤ l.length) := Lib.hid (by have := rstep_pc (σ := { σ with pc := k + 1 }) HXOK.out (show k + 1 ≤ l.length from HLT.out); rw [HE.out] at this; exact this)
                  have HXX2 : Hid (rexec l n σ1 (max m r) = R) := Lib.hid (by have h9 := HX.out; rw [rexec_go (by rw [HPC.out]; exact HLT.out) (by rw [HPC.out, HIN.out]; exact beq_eq_false_iff_ne.mp hb0) (by rw [HPC.out, HIN.out, HE.out]), HPC.out, HIN.out, HE.out] at h9; rw [← HRE.out]; exact h9)
                  have HLF2 : Hid (σ1.outs.length + n ≤ F) := Lib.hid (by rw [HO2.out]; (try rw [List.length_append]); rw [HLL.out]; (try (show L + 1 + n ≤ F)); omega)
                  have HN8 := Lib.hid (HSX.out.next hB8)
                  have HB8 := Lib.hid hB8
                  have g8 := (hB8.frozen (p := ⟨P, 12, none⟩) zP).trans g12
                  have z8 := Nat.lt_of_lt_of_le zP hB8.size
                  clear hB8 hb8 hB7 hb7 hB0 p0 p1 p12 g12 zP
                  by_cases hmr : (m : Int) < (r : Int)
                  case pos =>
                    have hmx : max m r = r := by omega
                    have HMX := Lib.hid hmx
                    clear hmx
                    refine takeL (v := ?v16) 15 rfl (by kernel_rfl) (by kernel_rfl) (by kernel_rfl) (fun _ _ _ h => h) (by rfl) ?hy16 (by assumption) ?rest16
                    case hy16 => (intro w hSw; (try dsimp only at hSw); go_simp; (try with_reducible rfl))
                    try simp only [Act.put, List.setIfInBounds_toArray, List.set_cons_zero, List.set_cons_succ]
                    refine takeL (v := ?v17) 16 rfl (by kernel_rfl) (by kernel_rfl) (by kernel_rfl) (fun _ _ _ h => h) (by rfl) ?hy17 (by assumption) ?rest17
                    case hy17 => (intro w hSw; (try dsimp only at hSw); go_simp; (try with_reducible rfl))
                    try simp only [Act.put, List.setIfInBounds_toArray, List.set_cons_zero, List.set_cons_succ]
                    refine takeL (v := ?v18) 17 rfl (by kernel_rfl) (by kernel_rfl) (by kernel_rfl) (fun _ _ _ h => h) (by rfl) ?hy18 (by assumption) ?rest18
                    case hy18 => (intro w hSw; (try dsimp only at hSw); go_simp; (try with_reducible rfl))
                    try simp only [Act.put, List.setIfInBounds_toArray, List.set_cons_zero, List.set_cons_succ]
                    refine wpAnyH_done (by kernel_rfl) ?_ _
                    refine lastL rfl (fun K hK => ?_)
                    (try go_simp)
                    refine hK.out _ _ ?_
                    clear hK K
                    try simp only [Act.put, List.setIfInBounds_toArray, List.set_cons_zero, List.set_cons_succ]
                    go_wp2_with fail
                    go_roundg n
                    case measure => omega
                    case rel => exact ⟨σ1.pc, n, o6, A6, c6, k, σ1, r, HPC2.out, rfl, rfl, by omega, HLF2, Lib.hid (HN8.out.top r), Lib.hid rfl, HW1, Lib.hid (by rw [← HMX.out]; exact HXX2.out)⟩
                  case neg =>
                    have hmx : max m r = m := by omega
                    have HMX := Lib.hid hmx
                    clear hmx
                    refine takeL (v := ?v19) 15 rfl (by kernel_rfl) (by kernel_rfl) (by kernel_rfl) (fun _ _ _ h => h) (by rfl) ?hy19 (by assumption) ?rest19
                    case hy19 => (intro w hSw; (try dsimp only at hSw); go_simp; (try with_reducible rfl))
                    try simp only [Act.put, List.setIfInBounds_toArray, List.set_cons_zero, List.set_cons_succ]
                    refine takeL (v := ?v20) 16 rfl (by kernel_rfl) (by kernel_rfl) (by kernel_rfl) (fun _ _ _ h => h) (by rfl) ?hy20 (by assumption) ?rest20
                    case hy20 => (intro w hSw; (try dsimp only at hSw); go_simp; (try with_reducible rfl))
                    try simp only [Act.put, List.setIfInBounds_toArray, List.set_cons_zero, List.set_cons_succ]
                    refine takeL (v := ?v21) 17 rfl (by kernel_rfl) (by kernel_rfl) (by kernel_rfl) (fun _ _ _ h => h) (by rfl) ?hy21 (by assumption) ?rest21
                    case hy21 => (intro w hSw; (try dsimp only at hSw); go_simp; (try with_reducible rfl))
                    try simp only [Act.put, List.setIfInBounds_toArray, List.set_cons_zero, List.set_cons_succ]
                    refine wpAnyH_done (by kernel_rfl) ?_ _
                    refine lastL rfl (fun K hK => ?_)
                    (try go_simp)
                    refine hK.out _ _ ?_
                    clear hK K
                    try simp only [Act.put, List.setIfInBounds_toArray, List.set_cons_zero, List.set_cons_succ]
                    go_wp2_with fail
                    go_roundg n
                    case measure => omega
                    case rel => exact ⟨σ1.pc, n, o6, A6, c6, k, σ1, m, HPC2.out, rfl, rfl, by omega, HLF2, Lib.hid (HN8.out.top m), Lib.hid rfl, HW1, Lib.hid (by rw [← HMX.out]; exact HXX2.out)⟩
                case neg =>
                  have HO2 : Hid (σ1.outs = σ.outs) := Lib.hid (by rw [HOUT.out, if_neg (fun h => ht h.1)])
                  go_upto_region 17 with (first | (go_at_call 37; refine KD.out.mono ?_; rintro e w5 ⟨rfl, hd⟩))
                  obtain ⟨o5, hS5⟩ := HS2.out.turn hd HO2.out
                  have HSX := Lib.hid hS5
                  clear hS5 hd
                  obtain ⟨A', c', D', d', xs, v0, v1, cs, hM⟩ := HSX.out.m
                  have p0 := (hM.blk.cell 0).trans hM.mc.c0
                  have p1 := (hM.blk.cell 1).trans hM.mc.c1
                  have p12 := (hM.blk.cell 12).trans hM.mc.c12
                  have g12 := hM.blk.frozen 12
                  have zP := hM.blk.lt
                  have hI := hM.g.roots.ints (by have := HW1.out.now.roots; omega)
                  have hDn := hM.g.nodes.reads (by have := HW1.out.now.size; omega) (sound_small HW1.out.now)
                  have hR := arr_at (w := w5) (P := P) (k := 2) (l := σ1.refs) (fun i hi => (hM.blk.cell (2 + i)).trans (hM.mc.a i (by rw [← HW1.out.refs]; exact hi))) (by rw [HW1.out.refs]; omega)
                  have hCN := fun (W3 : World) (hb : Below w5.heap.size w5 W3) => refcanonM_firm A' D' (some ⟨P, 2, none⟩) σ1.now σ1.refs c' d' 4 W3 (hR.below hb) HW1.out.refsN (by rw [HW1.out.refs]; omega) (hI.below hb) (hDn.below hb) HW1.out.now.named (by have := HW1.out.now.roots; omega) (by have := HW1.out.now.size; omega) HW1.out.now.nodes
                  rw [HW1.out.refs] at hCN
                  have HCN := Lib.hid hCN
                  have hns := number_small (g := ⟨σ1.now.roots ++ σ1.refs, σ1.now.nodes⟩) (show ∀ x ∈ σ1.now.nodes, _ from sound_small HW1.out.now)
                  have ecm : (canonM σ1.now σ1.refs).nodes = (number ⟨σ1.now.roots ++ σ1.refs, σ1.now.nodes⟩).nodes := canonGo_roots _ _ _ _ _ _ _
                  rw [← ecm] at hns
                  have HNS := Lib.hid (And.intro hns.1 (Nat.le_trans hns.2 (by have := HW1.out.now.size; show σ1.now.nodes.length + 1 ≤ 100000; omega)))
                  clear hM hI hDn hR hCN hns ecm
                  have hB0 : Below w5.heap.size w5 w5.drew := (Below.refl _ _).drew
                  go_upto_region 19 with fail
                  refine wp_region_lastL (fun W4 => W4.cell? ⟨P, 12, none⟩ = some (.int .i64 (m : Int)) ∧ W4.cell? ⟨P, 0, none⟩ = some (.slice A' σ1.now.roots.length c') ∧ W4.cell? ⟨P, 1, none⟩ = some (.slice D' σ1.now.nodes.length d')) [_, _, _, _, _, _, _, _, _, _, _, _, _, _, _, _, _, _] _ 18 rfl rfl (by kernel_rfl) (by kernel_rfl) (keepB3 hB0 p12 p0 p1) (fun hHeld0 => ?_)
                  refine takeL (v := ?v22) 0 rfl (by kernel_rfl) (by kernel_rfl) (by kernel_rfl) (fun _ _ _ h => h) (by rfl) ?hy22 (by assumption) ?rest22
                  case hy22 => (intro w hSw; (try dsimp only at hSw); go_simp; (try with_reducible rfl))
                  try simp only [Act.put, List.setIfInBounds_toArray, List.set_cons_zero, List.set_cons_succ]
                  refine takeL (v := ?v23) 1 rfl (by kernel_rfl) (by kernel_rfl) (by kernel_rfl) (fun _ _ _ h => h) (by rfl) ?hy23 (by assumption) ?rest23
                  case hy23 => (intro w hSw; (try dsimp only at hSw); go_simp; (try with_reducible rfl))
                  try simp only [Act.put, List.setIfInBounds_toArray, List.set_cons_zero, List.set_cons_succ]
                  refine takeL (v := ?v24) 2 rfl (by kernel_rfl) (by kernel_rfl) (by kernel_rfl) (fun _ _ _ h => h) (by rfl) ?hy24 (by assumption) ?rest24
                  case hy24 => (intro w hSw; (try dsimp only at hSw); go_simp; (try with_reducible rfl))
                  try simp only [Act.put, List.setIfInBounds_toArray, List.set_cons_zero, List.set_cons_succ]
                  refine takeL (v := ?v25) 3 rfl (by kernel_rfl) (by kernel_rfl) (by kernel_rfl) (fun _ _ _ h => h) (by rfl) ?hy25 (by assumption) ?rest25
                  case hy25 => (intro w hSw; (try dsimp only at hSw); go_simp; (try with_reducible rfl))
                  try simp only [Act.put, List.setIfInBounds_toArray, List.set_cons_zero, List.set_cons_succ]
                  refine takeL (v := ?v26) 4 rfl (by kernel_rfl) (by kernel_rfl) (by kernel_rfl) (fun _ _ _ h => h) (by rfl) ?hy26 (by assumption) ?rest26
                  case hy26 => (intro w hSw; (try dsimp only at hSw); go_simp; (try with_reducible rfl))
                  try simp only [Act.put, List.setIfInBounds_toArray, List.set_cons_zero, List.set_cons_succ]
                  refine takeL (v := ?v27) 5 rfl (by kernel_rfl) (by kernel_rfl) (by kernel_rfl) (fun _ _ _ h => h) (by rfl) ?hy27 (by assumption) ?rest27
                  case hy27 => (intro w hSw; (try dsimp only at hSw); go_simp; (try with_reducible rfl))
                  try simp only [Act.put, List.setIfInBounds_toArray, List.set_cons_zero, List.set_cons_succ]
                  refine takeL (v := ?v28) 6 rfl (by kernel_rfl) (by kernel_rfl) (by kernel_rfl) (fun _ _ _ h => h) (by rfl) ?hy28 (by assumption) ?rest28
                  case hy28 => (intro w hSw; (try dsimp only at hSw); go_simp; (try with_reducible rfl))
                  try simp only [Act.put, List.setIfInBounds_toArray, List.set_cons_zero, List.set_cons_succ]
                  refine takeL (v := ?v29) 7 rfl (by kernel_rfl) (by kernel_rfl) (by kernel_rfl) (fun _ _ _ h => h) (by rfl) ?hy29 (by assumption) ?rest29
                  case hy29 => (intro w hSw; (try dsimp only at hSw); go_simp; (try with_reducible rfl))
                  try simp only [Act.put, List.setIfInBounds_toArray, List.set_cons_zero, List.set_cons_succ]
                  refine takeL (v := ?v30) 8 rfl (by kernel_rfl) (by kernel_rfl) (by kernel_rfl) (fun _ _ _ h => h) (by rfl) ?hy30 (by assumption) ?rest30
                  case hy30 => (intro w hSw; (try dsimp only at hSw); go_simp; (try with_reducible rfl))
                  try simp only [Act.put, List.setIfInBounds_toArray, List.set_cons_zero, List.set_cons_succ]
                  refine takeL (v := ?v31) 9 rfl (by kernel_rfl) (by kernel_rfl) (by kernel_rfl) (fun _ _ _ h => h) (by rfl) ?hy31 (by assumption) ?rest31
                  case hy31 => (intro w hSw; (try dsimp only at hSw); go_simp; (try with_reducible rfl))
                  try simp only [Act.put, List.setIfInBounds_toArray, List.set_cons_zero, List.set_cons_succ]
                  refine takeL (v := ?v32) 10 rfl (by kernel_rfl) (by kernel_rfl) (by kernel_rfl) (fun _ _ _ h => h) (by rfl) ?hy32 (by assumption) ?rest32
                  case hy32 => (intro w hSw; (try dsimp only at hSw); go_simp; (try with_reducible rfl))
                  try simp only [Act.put, List.setIfInBounds_toArray, List.set_cons_zero, List.set_cons_succ]
                  refine takeL (v := ?v33) 11 rfl (by kernel_rfl) (by kernel_rfl) (by kernel_rfl) (fun _ _ _ h => h) (by rfl) ?hy33 (by assumption) ?rest33
                  case hy33 => (intro w hSw; (try dsimp only at hSw); go_simp; (try with_reducible rfl))
                  try simp only [Act.put, List.setIfInBounds_toArray, List.set_cons_zero, List.set_cons_succ]
                  refine takeL (v := ?v34) 12 rfl (by kernel_rfl) (by kernel_rfl) (by kernel_rfl) (fun _ _ _ h => h) (by rfl) ?hy34 (by assumption) ?rest34
                  case hy34 => (intro w hSw; (try dsimp only at hSw); go_simp; (try with_reducible rfl))
                  try simp only [Act.put, List.setIfInBounds_toArray, List.set_cons_zero, List.set_cons_succ]
                  refine wpAnyH_ready (rs := [13]) (by kernel_rfl) (by simp) ?_
                  refine consL 13 rfl (fun K hK => ?_) AllReadyH.nil
                  go_simp
                  go_at_call 39
                  refine (HCN.out _ hB0).mono ?_
                  rintro e w7 ⟨A7, c7, D7, d7, rfl, hF7, hb7⟩
                  have hB7 := below_then hB0 hb7
                  have HNN := Lib.hid (firm_nodes hF7)
                  clear hF7
                  try go_wp2_with fail
                  refine hK.out _ _ ?hS35 (fun hHeld1 => ?rest35)
                  case hS35 => exact keepB3 hB7 p12 p0 p1
                  clear hK K hHeld0
                  try simp only [Act.put, List.setIfInBounds_toArray, List.set_cons_zero, List.set_cons_succ]
                  refine wpAnyH_ready (rs := [14]) (by kernel_rfl) (by simp) ?_
                  refine consL 14 rfl (fun K hK => ?_) AllReadyH.nil
                  go_simp
                  go_at_call 38
                  refine (rsize_any _ D7 _ d7 _ HNN.out HNS.out.2 HNS.out.1).mono ?_
                  rintro e w8 ⟨rfl, hb8⟩
                  have hB8 := below_then hB7 hb8
                  rw [reach_canonM]
                  try go_wp2_with fail
                  refine hK.out _ _ ?hS36 (fun hHeld2 => ?rest36)
                  case hS36 => exact keepB3 hB8 p12 p0 p1
                  clear hK K hHeld1
                  try simp only [Act.put, List.setIfInBounds_toArray, List.set_cons_zero, List.set_cons_succ]
                  obtain ⟨r, hr⟩ : ∃ r, reach σ1.now σ1.refs = r := ⟨_, rfl⟩
                  rw [hr]
                  have HRE := Lib.hid hr
                  clear hr
                  have HPC2 : Hid (σ1.pc ≤ l.length) := Lib.hid (by have := rstep_pc (σ := { σ with pc := k + 1 }) HXOK.out (show k + 1 ≤ l.length from HLT.out); rw [HE.out] at this; exact this)
                  have HXX2 : Hid (rexec l n σ1 (max m r) = R) := Lib.hid (by have h9 := HX.out; rw [rexec_go (by rw [HPC.out]; exact HLT.out) (by rw [HPC.out, HIN.out]; exact beq_eq_false_iff_ne.mp hb0) (by rw [HPC.out, HIN.out, HE.out]), HPC.out, HIN.out, HE.out] at h9; rw [← HRE.out]; exact h9)
                  have HLF2 : Hid (σ1.outs.length + n ≤ F) := Lib.hid (by rw [HO2.out]; (try rw [List.length_append]); rw [HLL.out]; (try (show L + 1 + n ≤ F)); omega)
                  have HN8 := Lib.hid (HSX.out.next hB8)
                  have HB8 := Lib.hid hB8
                  have g8 := (hB8.frozen (p := ⟨P, 12, none⟩) zP).trans g12
                  have z8 := Nat.lt_of_lt_of_le zP hB8.size
                  clear hB8 hb8 hB7 hb7 hB0 p0 p1 p12 g12 zP
                  by_cases hmr : (m : Int) < (r : Int)
                  case pos =>
                    have hmx : max m r = r := by omega
                    have HMX := Lib.hid hmx
                    clear hmx
                    refine takeL (v := ?v37) 15 rfl (by kernel_rfl) (by kernel_rfl) (by kernel_rfl) (fun _ _ _ h => h) (by rfl) ?hy37 (by assumption) ?rest37
                    case hy37 => (intro w hSw; (try dsimp only at hSw); go_simp; (try with_reducible rfl))
                    try simp only [Act.put, List.setIfInBounds_toArray, List.set_cons_zero, List.set_cons_succ]
                    refine takeL (v := ?v38) 16 rfl (by kernel_rfl) (by kernel_rfl) (by kernel_rfl) (fun _ _ _ h => h) (by rfl) ?hy38 (by assumption) ?rest38
                    case hy38 => (intro w hSw; (try dsimp only at hSw); go_simp; (try with_reducible rfl))
                    try simp only [Act.put, List.setIfInBounds_toArray, List.set_cons_zero, List.set_cons_succ]
                    refine takeL (v := ?v39) 17 rfl (by kernel_rfl) (by kernel_rfl) (by kernel_rfl) (fun _ _ _ h => h) (by rfl) ?hy39 (by assumption) ?rest39
                    case hy39 => (intro w hSw; (try dsimp only at hSw); go_simp; (try with_reducible rfl))
                    try simp only [Act.put, List.setIfInBounds_toArray, List.set_cons_zero, List.set_cons_succ]
                    refine wpAnyH_done (by kernel_rfl) ?_ _
                    refine lastL rfl (fun K hK => ?_)
                    (try go_simp)
                    refine hK.out _ _ ?_
                    clear hK K
                    try simp only [Act.put, List.setIfInBounds_toArray, List.set_cons_zero, List.set_cons_succ]
                    go_wp2_with fail
                    go_roundg n
                    case measure => omega
                    case rel => exact ⟨σ1.pc, n, o5, AO, cO, k, σ1, r, HPC2.out, rfl, rfl, by omega, HLF2, Lib.hid (HN8.out.top r), Lib.hid rfl, HW1, Lib.hid (by rw [← HMX.out]; exact HXX2.out)⟩
                  case neg =>
                    have hmx : max m r = m := by omega
                    have HMX := Lib.hid hmx
                    clear hmx
                    refine takeL (v := ?v40) 15 rfl (by kernel_rfl) (by kernel_rfl) (by kernel_rfl) (fun _ _ _ h => h) (by rfl) ?hy40 (by assumption) ?rest40
                    case hy40 => (intro w hSw; (try dsimp only at hSw); go_simp; (try with_reducible rfl))
                    try simp only [Act.put, List.setIfInBounds_toArray, List.set_cons_zero, List.set_cons_succ]
                    refine takeL (v := ?v41) 16 rfl (by kernel_rfl) (by kernel_rfl) (by kernel_rfl) (fun _ _ _ h => h) (by rfl) ?hy41 (by assumption) ?rest41
                    case hy41 => (intro w hSw; (try dsimp only at hSw); go_simp; (try with_reducible rfl))
                    try simp only [Act.put, List.setIfInBounds_toArray, List.set_cons_zero, List.set_cons_succ]
                    refine takeL (v := ?v42) 17 rfl (by kernel_rfl) (by kernel_rfl) (by kernel_rfl) (fun _ _ _ h => h) (by rfl) ?hy42 (by assumption) ?rest42
                    case hy42 => (intro w hSw; (try dsimp only at hSw); go_simp; (try with_reducible rfl))
                    try simp only [Act.put, List.setIfInBounds_toArray, List.set_cons_zero, List.set_cons_succ]
                    refine wpAnyH_done (by kernel_rfl) ?_ _
                    refine lastL rfl (fun K hK => ?_)
                    (try go_simp)
                    refine hK.out _ _ ?_
                    clear hK K
                    try simp only [Act.put, List.setIfInBounds_toArray, List.set_cons_zero, List.set_cons_succ]
                    go_wp2_with fail
                    go_roundg n
                    case measure => omega
                    case rel => exact ⟨σ1.pc, n, o5, AO, cO, k, σ1, m, HPC2.out, rfl, rfl, by omega, HLF2, Lib.hid (HN8.out.top m), Lib.hid rfl, HW1, Lib.hid (by rw [← HMX.out]; exact HXX2.out)⟩
    case rest =>
      obtain ⟨hro, oE, AO, cO, hS⟩ := hcut.out
      obtain ⟨A', c', D', d', xs, v0, v1, cs, hM⟩ := hS.m
      have q0 := hS.q.cell 0
      have q1 := hS.q.cell 1
      have q2 := hS.q.cell 2
      have q3 := hS.q.cell 3
      have zq := hS.q.lt
      obtain ⟨A5, c5, D5, d5, e4, -, -⟩ := hM.last wc (Mod.refl _ _)
      injection e4 with e4
      obtain ⟨rfl, rfl⟩ : (v0 = Value.slice A5 R.1.σ.last.roots.length c5) ∧ (v1 = Value.slice D5 R.1.σ.last.nodes.length d5) := by simpa using e4
      have p10 := (hM.blk.cell 10).trans hM.mc.c10
      have p11 := (hM.blk.cell 11).trans hM.mc.c11
      have p12 := (hM.blk.cell 12).trans hM.mc.c12
      have zP := hM.blk.lt
      have HRc := Lib.hid (HR1.out.below hS.below HR1.out.lt)
      have HTc := Lib.hid (HT1.out.below hS.below HT1.out.lt)
      have HBc := Lib.hid (below_then HB1.out hS.below)
      have r0 := HRc.out.cell 0
      have r1 := HRc.out.cell 1
      have r2 := HRc.out.cell 2
      have r3 := HRc.out.cell 3
      have s0 := HRc.out.frozen 0
      have s1 := HRc.out.frozen 1
      have s2 := HRc.out.frozen 2
      have s3 := HRc.out.frozen 3
      have zr := HRc.out.lt
      have t0 := HTc.out.cell 0
      have t1 := HTc.out.cell 1
      have f0 := HTc.out.frozen 0
      have f1 := HTc.out.frozen 1
      have zt := HTc.out.lt
      simp only [List.getElem?_toArray, List.getElem?_cons_zero, List.getElem?_cons_succ] at q0 q1 q2 q3 r0 r1 r2 r3 t0 t1
      have hPB := hM.lo P (by rw [hM.oP]; exact fun h => by cases h)
      have hw1 := HT1.out.lt
      have hP1 : w.heap.size + 1 < P := by omega
      have hP2 : w.heap.size + 1 + 1 < P := by omega
      have hlst := hM.last
      have hrow := hS.row
      have hoA := fun ad (e : AO = some ad) => hS.m.lo ad.block (by rw [(hS.oA ad e).1]; exact fun h => by cases h)
      have HLST := Lib.hid hlst
      have HROUT := Lib.hid hro
      have HROW := Lib.hid hrow
      have HOA := Lib.hid hoA
      have HW1 := Lib.hid hw1
      clear hS hM hlst hrow hoA hcut HST hro
      obtain ⟨e, he⟩ : ∃ e, R.1.e = e := ⟨_, rfl⟩
      obtain ⟨a, ha⟩ : ∃ a : Int, (R.1.at_ : Int) = a := ⟨_, rfl⟩
      obtain ⟨b, hb⟩ : ∃ b : Int, (R.1.left : Int) = b := ⟨_, rfl⟩
      obtain ⟨L, hL⟩ : ∃ L, R.1.σ.outs.length = L := ⟨_, rfl⟩
      obtain ⟨M, hM⟩ : ∃ M : Int, (R.2 : Int) = M := ⟨_, rfl⟩
      rw [he] at q0
      rw [ha] at q1
      rw [hb] at q2
      rw [hL] at q3
      rw [hM] at p12
      have HV := Lib.hid (And.intro he (And.intro ha (And.intro hb (And.intro hL hM))))
      clear he ha hb hL hM
      go_wp2_with fail
      go_region
      go_wp2
      have RR := ret_rows (p := w.heap.size + 1) (q := w.heap.size + 1 + 1) HBc.out (by omega) (by omega) (by omega) HRc.out HTc.out (.int .i64 e) (.int .i64 a) (.int .i64 b) (.slice AO L cO) (.slice A5 R.1.σ.last.roots.length c5) (.slice D5 R.1.σ.last.nodes.length d5) 1
      refine bodyPost_ret (results_row_row_tmp rfl _ _ (w.heap.size + 1) (w.heap.size + 1 + 1) 42 25 #[.int .i64 e, .int .i64 a, .int .i64 b, .slice AO L cO] #[.slice A5 R.1.σ.last.roots.length c5, .slice D5 R.1.σ.last.nodes.length d5] (0, 0) (0, 0) _ _ rfl RR.1 Tryz.underlying42 rfl resSize rfl RR.2.1 Tryz.underlying25 rfl graphSize) rfl ?_
      obtain ⟨he, ha, hb, hL, hM⟩ := HV.out
      have hpq := HW1.out
      have hxr := HXR.out
      subst hxr
      subst he ha hb hL hM
      refine ⟨AO, cO, _, rfl, ?_, HLST.out _ (RR.2.2.2.mono (fun k _ e => .inr (by rcases e with e | e <;> omega))), RR.2.2.1⟩
      exact Ints.of_own (Gr.own_mod HROW.out RR.2.2.2 (fun k hk e => by
        obtain ⟨ad, e1, e2⟩ := block_iff hk
        have := HOA.out ad e1
        rw [e2] at this
        rcases e with e | e <;> omega)) (by have := HROUT.out; omega)
end Go.Proofs.YteminkohgagedaaGreat.Rf
