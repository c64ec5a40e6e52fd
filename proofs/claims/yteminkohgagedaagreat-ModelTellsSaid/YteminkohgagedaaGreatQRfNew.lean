/- The reference's machine: New. -/
import Derived.Test.YteminkohgagedaaGreatQGrCells
import Derived.IntWalk
import Derived.Test.YteminkohgagedaaGreatQRfDo4
import Derived.Test.YteminkohgagedaaGreatQRfSound
namespace Go.Proofs.YteminkohgagedaaGreat.Gr
open Go.RowKit Go.Proofs.YteminkohgagedaaGreat.Base
set_option linter.unusedVariables false
set_option linter.unusedSimpArgs false

set_option maxRecDepth 100000 in
set_option maxHeartbeats 2000000 in
theorem rsize_any (v0 : Value) (D : Option Addr) (l : List Nd) (d : Nat) (w : World) (hD : Nodes w D l) (hl : l.length ≤ 100000) (hx : ∀ x ∈ l, x.slots.length ≤ 15 ∧ x.words.length ≤ 30) :
    Calls Tryz.prog 38 #[.agg #[v0, .slice D l.length d]] w fun e w' => e = .returned (.int .i64 (cells l)) ∧ Below w.heap.size w w' := by
  have HD := Lib.hid (hD.below (below_1 w (.cells #[v0, .slice D l.length d] 25)))
  have HX := Lib.hid hx
  have HG := Lib.hid (Blk.new w 25 #[v0, .slice D l.length d])
  have HB0 := Lib.hid (below_1 w (.cells #[v0, .slice D l.length d] 25))
  obtain ⟨W, hW⟩ : ∃ W, w.alloc (.cells #[v0, .slice D l.length d] 25) = W := ⟨_, rfl⟩
  rw [hW] at HD HG HB0
  have hsz : w.heap.size < W.heap.size := HG.out.lt
  clear hD hx
  go_enter Tryz.func38, Tryz.ntmps38
  go_wp2
  have HW := Lib.hid hW
  clear hW
  go_loopw [3, 4] (fun s i wr => ∃ (k : Nat), k ≤ l.length ∧ i = .int .i64 k ∧ s = .int .i64 (cells (l.take k)) ∧ Hid (Below W.heap.size W wr)) (fun s i _ => l.length - (intOf i).toNat)
  case atStart => exact ⟨0, Nat.zero_le _, rfl, rfl, Lib.hid (Below.refl _ _)⟩
  case round =>
    obtain ⟨k, hk, rfl, rfl, HB⟩ := hrel
    have c1 := (HB.out.cell (p := ⟨w.heap.size, 1, none⟩) hsz).trans (HG.out.cell 1)
    simp only [List.getElem?_toArray, List.getElem?_cons_zero, List.getElem?_cons_succ] at c1
    by_cases hlt : k < l.length
    · obtain ⟨dd, As, cs, Bs, ds, rfl, d2, d3, i1, i2⟩ := nds_at (HD.out.below HB.out) k hlt
      have hxk := HX.out l[k] (List.getElem_mem hlt)
      have HT := Lib.hid (cells_take l k hlt)
      have hsm : cells (l.take k) ≤ 46 * k := by
        have := cells_small (l := l.take k) (fun x hx => HX.out x (List.mem_of_mem_take hx))
        rw [List.length_take] at this
        omega
      generalize cells (l.take k) = z at HT hsm
      generalize l[k] = x at d2 d3 i1 i2 hxk HT
      generalize x.slots.length = sl at d2 hxk HT
      generalize x.words.length = wl at d3 hxk HT
      obtain ⟨hx1, hx2⟩ := hxk
      clear i1 i2
      have hq1 : IntKind.i64.wrap ((z : Int) + 1) = (z : Int) + 1 := IntWalk.i64_in _ (by omega)
      have hq2 : IntKind.i64.wrap ((z : Int) + 1 + (sl : Int)) = (z : Int) + 1 + (sl : Int) := IntWalk.i64_in _ (by omega)
      have hq3 : IntKind.i64.wrap ((z : Int) + 1 + (sl : Int) + (wl : Int)) = (z : Int) + 1 + (sl : Int) + (wl : Int) := IntWalk.i64_in _ (by omega)
      go_wp2_with fail
      go_quiet (fail)
      go_wp2
      go_roundw
      case rel =>
        refine ⟨k + 1, by omega, by go_num, ?_, Lib.hid (below_drewN HB.out _)⟩
        rw [HT.out]
        go_num
      case measure => simp [intOf]; omega
    · have hkl : k = l.length := by omega
      subst hkl
      go_wp2
      go_ret
      exact ⟨by rw [List.take_length]; rfl, below_then HB0.out HB.out⟩

end Go.Proofs.YteminkohgagedaaGreat.Gr
namespace Go.Proofs.YteminkohgagedaaGreat.Rf
open Go.RowKit Go.Proofs.YteminkohgagedaaGreat.Base Go.Proofs.YteminkohgagedaaGreat.Gr Go.Proofs.YteminkohgagedaaGreat.Ver Go.Proofs.YteminkohgagedaaGreat.Mo
set_option linter.unusedVariables false
set_option linter.unusedSimpArgs false

/-- A graph whose rows lie apart from all that may turn. -/
theorem steady_of {wf w5 : World} {lo B : Nat} {v : Value} {g : Gr} {o : Nat → Tag} {S0 : Nat → Prop} (hF : Firm lo wf v g) (hm : Mod S0 wf w5) (h0 : ∀ b, b < wf.heap.size → S0 b → b < lo) (ho : ∀ k, k < wf.heap.size → o k ≠ .other → k < lo) (hB : B ≤ lo) : SteadyT w5 B o v g := fun w'' hm2 =>
  hF (fun b => b < lo) w'' (Mod.trans (hm.mono h0) hm2 (fun b hb e => e.elim (ho b hb) (fun h => Nat.lt_of_lt_of_le h hB))) (fun _ h => h)
def start' (g : Gr) : St := ⟨g, number g, [0, 0, 0, 0], [0, 0, 0, 0], 0, []⟩
theorem new_mc (a b c d : Value) : MC #[a, b, .int .i64 0, .int .i64 0, .int .i64 0, .int .i64 0, .int .i64 0, .int .i64 0, .int .i64 0, .int .i64 0, c, d, .int .i64 0] a b c d [0, 0, 0, 0] [0, 0, 0, 0] 0 := by
  refine ⟨rfl, rfl, rfl, fun i hi => ?_, fun i hi => ?_, rfl, rfl, rfl⟩
  · rcases (by omega : i = 0 ∨ i = 1 ∨ i = 2 ∨ i = 3) with rfl | rfl | rfl | rfl <;> rfl
  · rcases (by omega : i = 0 ∨ i = 1 ∨ i = 2 ∨ i = 3) with rfl | rfl | rfl | rfl <;> rfl
/-- The machine that New makes: copied at wc, numbered at wn, both seen at w4; its block is the next one. -/
theorem new_rmo {wc wn w4 : World} {B lc ln : Nat} {G : Gr} {o : Nat → Tag} {A D A' D' : Option Addr} {c d c' d' : Nat} {xs : List Value}
    (hg : GM wc o false A c D d xs G) (hlo : ∀ k, o k ≠ .other → lc ≤ k) (hB : B ≤ lc) (hBl : B ≤ ln) (bc : Below wc.heap.size wc w4)
    (hF : Firm ln wn (.agg #[.slice A' (number G).roots.length c', .slice D' (number G).nodes.length d']) (number G)) (bn : Below wn.heap.size wn w4)
    (hap : wc.heap.size ≤ ln ∨ wn.heap.size ≤ lc) (ob : Obj)
    (e : ob = .cells #[.slice A G.roots.length c, .slice D G.nodes.length d, .int .i64 0, .int .i64 0, .int .i64 0, .int .i64 0, .int .i64 0, .int .i64 0, .int .i64 0, .int .i64 0, .slice A' (number G).roots.length c', .slice D' (number G).nodes.length d', .int .i64 0] 83) (hBn : B ≤ w4.heap.size) :
    ∃ o', RMo (w4.alloc ob) o' B w4.heap.size (start' G) 0 ∧ ∀ k, o' k ≠ .other → k < w4.heap.size + 1 := by
  have hx := below_1 w4 ob
  have hcs := bc.size
  have hns := bn.size
  refine ⟨fun k => if k < wc.heap.size then o k else if k = w4.heap.size then .heap else .other, ⟨A, c, D, d, xs, _, _, _, ?_, e ▸ Blk.new w4 _ _, new_mc _ _ _ _, ?_, fun k hk => ?_, ?_⟩, fun k hk => ?_⟩
  · exact hg.mod (Mod.of_below (S := fun _ => False) (below_then bc hx)) (fun _ _ h => h.elim) (fun k hk => if_pos hk)
  · show (if w4.heap.size < wc.heap.size then o w4.heap.size else if w4.heap.size = w4.heap.size then Tag.heap else Tag.other) = .heap
    rw [if_neg (by omega), if_pos rfl]
  · by_cases h1 : k < wc.heap.size
    · simp only [h1, if_true] at hk
      exact Nat.le_trans hB (hlo k hk)
    · by_cases h2 : k = w4.heap.size
      · omega
      · simp only [h1, h2, if_false] at hk
        exact absurd rfl hk
  · refine steady_of hF (Mod.of_below (S := fun _ => False) (below_then bn hx)) (fun _ _ h => h.elim) (fun k hk hne => ?_) hBl
    by_cases h1 : k < wc.heap.size
    · simp only [h1, if_true] at hne
      have := hlo k hne
      omega
    · by_cases h2 : k = w4.heap.size
      · omega
      · simp only [h1, h2, if_false] at hne
        exact absurd rfl hne
  · by_cases h1 : k < wc.heap.size
    · omega
    · by_cases h2 : k = w4.heap.size
      · omega
      · simp only [h1, h2, if_false] at hk
        exact absurd rfl hk

theorem RMo.top {w : World} {o : Nat → Tag} {B P : Nat} {σ : St} {m : Int} (h : RMo w o B P σ m) (m' : Int) : RMo (w.setCell ⟨P, 12, none⟩ (.int .i64 m')) o B P σ m' ∧ Turn w (w.setCell ⟨P, 12, none⟩ (.int .i64 m')) o o := by
  obtain ⟨A, c, D, d, xs, u0, u1, cs, h⟩ := h
  exact ⟨⟨A, c, D, d, xs, u0, u1, _, h.cell (refs := σ.refs) (nums := σ.nums) 12 _ (h.mc.top m')⟩, Rf.turn_cell h.oP 12 _⟩

set_option maxRecDepth 100000 in
set_option maxHeartbeats 4000000 in
theorem rnew_any {w : World} {v : Value} {G : Gr} (h : GrV w v G) (hr : right G = true) :
    Calls Tryz.prog 36 #[v] w fun en w' => ∃ o P, en = .returned (.pointer (some ⟨P, 0, none⟩)) ∧ RMo w' o w.heap.size P (start' G) (cells (number G).nodes) ∧ Below w.heap.size w w' ∧ ∀ k, o k ≠ .other → k < w'.heap.size := by
  obtain ⟨A0, c0, D0, d0, rfl, hI, hD⟩ := h
  have hs := sound_right hr
  have hss := sound_number hs
  have hsm := sound_small hs
  have hsz := hs.size
  have hrt := hs.roots
  have hW := below_1 w (.cells #[.slice A0 G.roots.length c0, .slice D0 G.nodes.length d0] 25)
  have hB := Blk.new w 25 #[.slice A0 G.roots.length c0, .slice D0 G.nodes.length d0]
  obtain ⟨W, hWe⟩ : ∃ W, w.alloc (.cells #[.slice A0 G.roots.length c0, .slice D0 G.nodes.length d0] 25) = W := ⟨_, rfl⟩
  rw [hWe] at hW hB
  have hz : W.heap.size = w.heap.size + 1 := by rw [← hWe]; simp
  have x0 := hB.cell 0
  have x1 := hB.cell 1
  have zb := hB.lt
  simp only [List.getElem?_toArray, List.getElem?_cons_zero, List.getElem?_cons_succ] at x0 x1
  have KC := Lib.hid (fun (W1 : World) (hb : Below W.heap.size W W1) => copy_any (w := W1) (v := .agg #[.slice A0 G.roots.length c0, .slice D0 G.nodes.length d0]) (G := G) ⟨A0, c0, D0, d0, rfl, hI.below (below_then hW hb), hD.below (below_then hW hb)⟩ 90000 (Nat.le_refl _) ⟨by omega, by omega⟩ (fun x hx => by have := hsm x hx; omega))
  have KN := Lib.hid (fun (W1 : World) (hb : Below W.heap.size W W1) => refcanon_firm A0 D0 G c0 d0 W1 (hI.below (below_then hW hb)) (hD.below (below_then hW hb)) hs.named (by omega) (by omega) hs.nodes)
  have HW := Lib.hid hW
  have HZ := Lib.hid hz
  have HSS := Lib.hid hss
  have hD : Below W.heap.size W W.drew := (Below.refl _ _).drew
  have hDs := hD.size
  clear hI hs hss hsm hr hsz hrt
  go_enter Tryz.func36, Tryz.ntmps36
  go_wp2_with fail
  go_region_held3 (fun W1 => W1.cell? ⟨w.heap.size, 0, none⟩ = some (.slice A0 G.roots.length c0) ∧ W1.cell? ⟨w.heap.size, 1, none⟩ = some (.slice D0 G.nodes.length d0))
    (first
      | exact ⟨x0, x1⟩
      | exact ⟨(hD.cell (p := ⟨w.heap.size, 0, none⟩) zb).trans x0, (hD.cell (p := ⟨w.heap.size, 1, none⟩) zb).trans x1⟩
      | go_keep)
    (first
      | (go_at_call 82
         refine (KC.out _ hD).mono ?_
         rintro e wc ⟨o, A, c, D, d, xs, rfl, hmc, hlo, hg⟩
         have bC := hmc.below (fun b hb h => by omega)
         have hD := below_then hD bC)
      | (go_at_call 39
         refine (KN.out _ hD).mono ?_
         rintro e wn ⟨A', c', D', d', rfl, hF, bN⟩
         have hD := below_then hD bN))
  obtain ⟨P, hP⟩ : ∃ P, wn.heap.size = P := ⟨_, rfl⟩
  obtain ⟨ob, hob⟩ : ∃ ob : Obj, ob = .cells #[.slice A G.roots.length c, .slice D G.nodes.length d, .int .i64 0, .int .i64 0, .int .i64 0, .int .i64 0, .int .i64 0, .int .i64 0, .int .i64 0, .int .i64 0, .slice A' (number G).roots.length c', .slice D' (number G).nodes.length d', .int .i64 0] 83 := ⟨_, rfl⟩
  obtain ⟨o', hm, hk⟩ := new_rmo (B := w.heap.size) hg hlo (Nat.le_trans hW.size hDs) (Nat.le_trans hW.size bC.size) bN hF (Below.refl _ _) (.inl (Nat.le_refl _)) ob hob (Nat.le_trans hW.size hD.size)
  have hbl := hob ▸ Blk.new wn 83 #[.slice A G.roots.length c, .slice D G.nodes.length d, .int .i64 0, .int .i64 0, .int .i64 0, .int .i64 0, .int .i64 0, .int .i64 0, .int .i64 0, .int .i64 0, .slice A' (number G).roots.length c', .slice D' (number G).nodes.length d', .int .i64 0]
  obtain ⟨_, _, _, _, e4, hA4, hD4⟩ := (hF.below (below_1 wn ob)).now
  injection e4 with e4
  obtain ⟨e5, e6⟩ : (Value.slice A' (number G).roots.length c' = Value.slice _ (number G).roots.length _) ∧ (Value.slice D' (number G).nodes.length d' = Value.slice _ (number G).nodes.length _) := by simpa using e4
  injection e6 with e6 _ e6'
  subst e6 e6'
  have hbw := below_then hW (below_then hD (below_1 wn ob))
  rw [← hob]
  have hsw : (wn.alloc ob).heap.size = P + 1 := by rw [World.size_alloc, hP]
  rw [hP] at hm hk hbl ⊢
  generalize wn.alloc ob = W5 at hm hbl hD4 hbw hsw ⊢
  have HM := Lib.hid hm
  have HK := Lib.hid hk
  have HBL := Lib.hid hbl
  have HBW := Lib.hid hbw
  have HSW := Lib.hid hsw
  have HPW := Lib.hid (show w.heap.size ≤ P by rw [← hP]; exact Nat.le_trans hW.size hD.size)
  have KS := Lib.hid (rsize_any (.slice A' (number G).roots.length c') D' (number G).nodes d' W5 hD4 (by have := HSS.out.size; omega) (sound_small HSS.out))
  have t10 := hbl.cell 10
  have t11 := hbl.cell 11
  have zP := hbl.lt
  simp only [List.getElem?_toArray, List.getElem?_cons_zero, List.getElem?_cons_succ] at t10 t11
  clear hm hk hbl hbw hsw hP hA4 hD4 e4 e5 hob hF bN hD hlo hg hmc bC hW hB hWe hz zb x0 x1 KC KN hDs
  go_wp2_with fail
  refine KS.out.mono ?_
  rintro e w6 ⟨rfl, hb6⟩
  have hB6 := HBL.out.below hb6 HBL.out.lt
  have s12 := hB6.cell 12
  have f12 := hB6.frozen 12
  have z6 := hB6.lt
  have HB6 := Lib.hid hb6
  simp only [List.getElem?_toArray, List.getElem?_cons_zero, List.getElem?_cons_succ] at s12
  clear hb6 hB6
  go_wp2_with fail
  go_ret
  have hm6 := (HM.out.below HB6.out).top ((cells (number G).nodes : Nat) : Int)
  refine ⟨o', P, rfl, hm6.1, (below_then HBW.out HB6.out).setCell (by exact HPW.out) _, fun k hk => ?_⟩
  have h1 := HK.out k hk
  have h2 := HB6.out.size
  have h3 := HSW.out
  have h4 := hm6.2.mod.size
  omega
end Go.Proofs.YteminkohgagedaaGreat.Rf
