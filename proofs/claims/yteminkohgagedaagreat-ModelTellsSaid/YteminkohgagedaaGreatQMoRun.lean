/- How a program that runs lies in memory; its arithmetic, its names. -/
import Derived.Test.YteminkohgagedaaGreatQMoAlloc
import Derived.StillTailTactics
namespace Go.Proofs.YteminkohgagedaaGreat.Mo
open Go.RowKit Go.Proofs.YteminkohgagedaaGreat.Base Go.Proofs.YteminkohgagedaaGreat.Gr Go.Proofs.YteminkohgagedaaGreat.Ver
set_option linter.unusedVariables false
set_option linter.unusedSimpArgs false

/-- The running program's own blocks, and the heap's. -/
def Hot (o : Nat → Tag) (rp rb nb : Nat) (AO : Option Addr) (k : Nat) : Prop := o k ≠ .other ∨ k = rp ∨ k = rb ∨ k = nb ∨ blkOf AO = some k
structure RM (w : World) (o : Nat → Tag) (B hp rp rb nb : Nat) (AO : Option Addr) (cO : Nat) (σ : St) : Prop where
  heap : HM w o B hp σ.now σ.last
  blk : Blk w rp 109 #[.iface 64 (.pointer (some ⟨hp, 0, none⟩)), .slice (some ⟨rb, 0, none⟩) 4 4, .slice (some ⟨nb, 0, none⟩) 4 4, .int .i64 (σ.pc : Int), .slice AO σ.outs.length cO]
  refs : Blk w rb 3 (enc ic σ.refs).toArray
  nums : Blk w nb 3 (enc ic σ.nums).toArray
  outs : w.ownsRow B 3 1 (.slice AO σ.outs.length cO) σ.outs.length (enc ic σ.outs)
  orp : o rp = .other
  orb : o rb = .other
  onb : o nb = .other
  oO : ∀ k, blkOf AO = some k → o k = .other ∧ k ≠ rb ∧ k ≠ nb
  ne : rb ≠ nb
  lrp : B ≤ rp
  lrb : B ≤ rb
  lnb : B ≤ nb
/-- What has turned. -/
structure RTurn (w w' : World) (o o' : Nat → Tag) (rp rb nb : Nat) (AO AO' : Option Addr) : Prop where
  mod : Mod (Hot o rp rb nb AO) w w'
  ext : ∀ k, k < w.heap.size → o' k = o k
  out : ∀ k, k < w.heap.size → blkOf AO' = some k → blkOf AO = some k
section
variable {w w' w1 w2 : World} {o o' o1 o2 : Nat → Tag} {B hp rp rb nb : Nat} {AO AO' A1 A2 : Option Addr} {cO : Nat} {σ : St}
theorem RTurn.refl : RTurn w w o o rp rb nb AO AO := ⟨Mod.refl _ _, fun _ _ => rfl, fun _ _ h => h⟩
theorem RTurn.hot (h : RTurn w w1 o o1 rp rb nb AO A1) {k : Nat} (hk : k < w.heap.size) (hh : Hot o1 rp rb nb A1 k) : Hot o rp rb nb AO k := by
  rcases hh with e | e | e | e | e
  · rw [h.ext k hk] at e; exact .inl e
  · exact .inr (.inl e)
  · exact .inr (.inr (.inl e))
  · exact .inr (.inr (.inr (.inl e)))
  · exact .inr (.inr (.inr (.inr (h.out k hk e))))
theorem RTurn.trans (h : RTurn w w1 o o1 rp rb nb AO A1) (k : RTurn w1 w2 o1 o2 rp rb nb A1 A2) : RTurn w w2 o o2 rp rb nb AO A2 :=
  ⟨Mod.trans h.mod k.mod (fun b hb e => h.hot hb e), fun b hb => (k.ext b (Nat.lt_of_lt_of_le hb h.mod.size)).trans (h.ext b hb), fun b hb e => h.out b hb (k.out b (Nat.lt_of_lt_of_le hb h.mod.size) e)⟩
theorem RTurn.of_below (h : Below w.heap.size w w') : RTurn w w' o o rp rb nb AO AO := ⟨Mod.of_below h, fun _ _ => rfl, fun _ _ h => h⟩
theorem RTurn.of_turn (h : Turn w w' o o') : RTurn w w' o o' rp rb nb AO AO := ⟨h.mod.mono (fun _ _ e => .inl e), h.ext, fun _ _ e => e⟩
theorem outs_lt (h : w.ownsRow B 3 1 (.slice AO σ.outs.length cO) σ.outs.length (enc ic σ.outs)) {k : Nat} (e : blkOf AO = some k) : B ≤ k ∧ k < w.heap.size := own_block h k (by unfold blkOf at e; cases AO with | none => cases e | some ad => exact e)
theorem own_of_blk {n c k : Nat} (e : (Value.slice AO n c).ownBlock = some k) : blkOf AO = some k := by
  cases AO with
  | none => cases e
  | some ad => exact e
theorem own_of_blk' {n c k : Nat} (e : blkOf AO = some k) : (Value.slice AO n c).ownBlock = some k := by
  cases AO with
  | none => cases e
  | some ad => exact e
/-- A method of the heap has turned its own blocks alone. -/
theorem RM.turn (h : RM w o B hp rp rb nb AO cO σ) (ht : Turn w w' o o') {now last : Gr} (hm : HM w' o' B hp now last) : RM w' o' B hp rp rb nb AO cO { σ with now := now, last := last } := by
  have h1 := h.blk.lt
  have h2 := h.refs.lt
  have h3 := h.nums.lt
  refine ⟨hm, h.blk.mod ht.mod (fun e => e h.orp), h.refs.mod ht.mod (fun e => e h.orb), h.nums.mod ht.mod (fun e => e h.onb), own_mod h.outs ht.mod (fun k hk e => e (h.oO k (own_of_blk hk)).1), ?_, ?_, ?_, fun k e => ?_, h.ne, h.lrp, h.lrb, h.lnb⟩
  · rw [ht.ext _ h1]; exact h.orp
  · rw [ht.ext _ h2]; exact h.orb
  · rw [ht.ext _ h3]; exact h.onb
  · rw [ht.ext _ (outs_lt h.outs e).2]; exact h.oO k e
theorem RM.below (h : RM w o B hp rp rb nb AO cO σ) (hb : Below w.heap.size w w') : RM w' o B hp rp rb nb AO cO σ := by
  have := h.turn (Turn.of_below hb) (h.heap.below hb)
  exact this
theorem RM.ne_rb (h : RM w o B hp rp rb nb AO cO σ) : rp ≠ rb := Blk.ne_ h.blk h.refs (by decide)
theorem RM.ne_nb (h : RM w o B hp rp rb nb AO cO σ) : rp ≠ nb := Blk.ne_ h.blk h.nums (by decide)
theorem RM.ne_out (h : RM w o B hp rp rb nb AO cO σ) {k : Nat} (e : blkOf AO = some k) : k ≠ rp := by
  rintro rfl
  exact own_blk_ne h.outs h.blk (by decide) (own_of_blk' e)
theorem HM.cellO {now last : Gr} (h : HM w o B hp now last) {p : Nat} (hp' : o p = .other) (i : Nat) (v : Value) : HM (w.setCell ⟨p, i, none⟩ v) o B hp now last :=
  h.keep (S := fun k => k = p) (mod_set' (S := fun k => k = p) (Mod.refl _ _) rfl _) (fun k _ e => by rw [e]; exact hp') (fun _ _ => rfl) (fun k hk hk' _ => by simp at hk'; omega)
theorem ic_arr (l : List Int) (i : Nat) (v : Int) : (enc ic l).toArray.setIfInBounds i (.int .i64 v) = (enc ic (pu l i v)).toArray := by
  rw [ic_pu, List.setIfInBounds_toArray]
theorem RM.num (h : RM w o B hp rp rb nb AO cO σ) (i : Nat) (v : Int) : RM (w.setCell ⟨nb, i, none⟩ (.int .i64 v)) o B hp rp rb nb AO cO { σ with nums := pu σ.nums i v } := by
  refine ⟨h.heap.cellO h.onb _ _, h.blk.far (p := ⟨nb, i, none⟩) h.ne_nb _, h.refs.far (p := ⟨nb, i, none⟩) h.ne _, ?_, own_far h.outs (p := ⟨nb, i, none⟩) (fun e => (h.oO nb (own_of_blk e)).2.2 rfl) _, h.orp, h.orb, h.onb, h.oO, h.ne, h.lrp, h.lrb, h.lnb⟩
  rw [← ic_arr]
  exact h.nums.set_ i _
theorem RM.ref (h : RM w o B hp rp rb nb AO cO σ) (i : Nat) (v : Int) : RM (w.setCell ⟨rb, i, none⟩ (.int .i64 v)) o B hp rp rb nb AO cO { σ with refs := pu σ.refs i v } := by
  refine ⟨h.heap.cellO h.orb _ _, h.blk.far (p := ⟨rb, i, none⟩) h.ne_rb _, ?_, h.nums.far (p := ⟨rb, i, none⟩) (Ne.symm h.ne) _, own_far h.outs (p := ⟨rb, i, none⟩) (fun e => (h.oO rb (own_of_blk e)).2.1 rfl) _, h.orp, h.orb, h.onb, h.oO, h.ne, h.lrp, h.lrb, h.lnb⟩
  rw [← ic_arr]
  exact h.refs.set_ i _
theorem RM.pc (h : RM w o B hp rp rb nb AO cO σ) (k : Nat) : RM (w.setCell ⟨rp, 3, none⟩ (.int .i64 (k : Int))) o B hp rp rb nb AO cO { σ with pc := k } :=
  ⟨h.heap.cellO h.orp _ _, h.blk.set_ 3 (.int .i64 (k : Int)), h.refs.far (p := ⟨rp, 3, none⟩) (Ne.symm h.ne_rb) _, h.nums.far (p := ⟨rp, 3, none⟩) (Ne.symm h.ne_nb) _, own_far h.outs (p := ⟨rp, 3, none⟩) (fun e => h.ne_out (own_of_blk e) rfl) _, h.orp, h.orb, h.onb, h.oO, h.ne, h.lrp, h.lrb, h.lnb⟩
theorem rturn_cell (hb : Below w.heap.size w w1) {p : Nat} (hh : Hot o rp rb nb AO p) (i : Nat) (v : Value) : RTurn w (w1.setCell ⟨p, i, none⟩ v) o o rp rb nb AO AO :=
  ⟨Mod.trans (Mod.of_below hb) (mod_set' (S := fun k => k = p) (Mod.refl _ _) rfl _) (fun b _ e => by rw [e]; exact hh), fun _ _ => rfl, fun _ _ e => e⟩
theorem hot_rp : Hot o rp rb nb AO rp := .inr (.inl rfl)
theorem hot_rb : Hot o rp rb nb AO rb := .inr (.inr (.inl rfl))
theorem hot_nb : Hot o rp rb nb AO nb := .inr (.inr (.inr (.inl rfl)))
/-- The cells that the walks read. -/
theorem RM.cells (h : RM w o B hp rp rb nb AO cO σ) : w.cell? ⟨rp, 0, none⟩ = some (.iface 64 (.pointer (some ⟨hp, 0, none⟩))) ∧ w.cell? ⟨rp, 1, none⟩ = some (.slice (some ⟨rb, 0, none⟩) 4 4) ∧ w.cell? ⟨rp, 2, none⟩ = some (.slice (some ⟨nb, 0, none⟩) 4 4) ∧ w.cell? ⟨rp, 3, none⟩ = some (.int .i64 (σ.pc : Int)) ∧ w.cell? ⟨rp, 4, none⟩ = some (.slice AO σ.outs.length cO) := by
  have c0 := h.blk.cell 0
  have c1 := h.blk.cell 1
  have c2 := h.blk.cell 2
  have c3 := h.blk.cell 3
  have c4 := h.blk.cell 4
  simp only [List.getElem?_toArray, List.getElem?_cons_zero, List.getElem?_cons_succ] at c0 c1 c2 c3 c4
  exact ⟨c0, c1, c2, c3, c4⟩
theorem blk_ic {b : Nat} {l : List Int} (h : Blk w b 3 (enc ic l).toArray) (i : Nat) (hi : i < l.length) : w.cell? ⟨b, i, none⟩ = some (.int .i64 (gt l (i : Int))) := by
  rw [h.cell, enc_ic, gt_nat hi]
  simp [hi]
theorem RM.numAt (h : RM w o B hp rp rb nb AO cO σ) (hl : σ.nums.length = 4) (i : Nat) (hi : i < 4) : w.cell? ⟨nb, i, none⟩ = some (.int .i64 (gt σ.nums (i : Int))) := blk_ic h.nums i (by omega)
theorem RM.refAt (h : RM w o B hp rp rb nb AO cO σ) (hl : σ.refs.length = 4) (i : Nat) (hi : i < 4) : w.cell? ⟨rb, i, none⟩ = some (.int .i64 (gt σ.refs (i : Int))) := blk_ic h.refs i (by omega)
end

/-! ### what may be in an instruction -/
theorem num_reg {v k : Int} (hk : k = 2) (h : num v k = true) : ∃ i : Nat, v = (i : Int) ∧ i < 4 := by
  subst hk
  simp only [num, Int.reduceEq, if_false, if_true, decide_eq_true_eq] at h
  exact ⟨v.toNat, by omega, by omega⟩
theorem num_free {v k : Int} (h : num v k = true) : ∃ i : Nat, v = (i : Int) ∧ i ≤ 255 := by
  have := byt_iff (num_byt h)
  exact ⟨v.toNat, by omega, by omega⟩
theorem num_root {v k : Int} (hk : k = 3) (h : num v k = true) : ∃ i : Nat, v = (i : Int) ∧ i < 8 := by
  subst hk
  simp only [num, Int.reduceEq, if_false, if_true, decide_eq_true_eq] at h
  exact ⟨v.toNat, by omega, by omega⟩
theorem ok_parts {x : Ins} {n : Int} (h : x.ok n = true) : num x.a (shp x.op).1 = true ∧ num x.b (shp x.op).2.1 = true ∧ num x.c (shp x.op).2.2 = true := by
  simp only [Ins.ok, one, Bool.and_eq_true] at h
  exact h.1.1.2

/-- What do and its parts come to: the machine turned so. -/
def After (w : World) (o : Nat → Tag) (B hp rp rb nb : Nat) (AO : Option Addr) (σ' : St) (w' : World) : Prop := ∃ o' AO' cO', RM w' o' B hp rp rb nb AO' cO' σ' ∧ RTurn w w' o o' rp rb nb AO AO'

section
variable {w w1 : World} {o : Nat → Tag} {B hp rp rb nb : Nat} {AO : Option Addr} {cO : Nat} {σ : St}
theorem after_num (h : RM w o B hp rp rb nb AO cO σ) (ob : Obj) (i : Nat) (n : Nat) (v : Int) : After w o B hp rp rb nb AO { σ with nums := pu σ.nums i v } (((w.setCell ⟨nb, i, none⟩ (.int .i64 v)).alloc ob).drewN n) :=
  ⟨o, AO, cO, (h.num i v).below (below_drewN (below_1 _ _) n), (rturn_cell (Below.refl _ _) hot_nb _ _).trans (RTurn.of_below (below_drewN (below_1 _ _) n))⟩
theorem after_ref (h : RM w o B hp rp rb nb AO cO σ) (ob : Obj) (i : Nat) (n : Nat) (v : Int) : After w o B hp rp rb nb AO { σ with refs := pu σ.refs i v } (((w.setCell ⟨rb, i, none⟩ (.int .i64 v)).alloc ob).drewN n) :=
  ⟨o, AO, cO, (h.ref i v).below (below_drewN (below_1 _ _) n), (rturn_cell (Below.refl _ _) hot_rb _ _).trans (RTurn.of_below (below_drewN (below_1 _ _) n))⟩
end

set_option maxHeartbeats 1000000 in
theorem reckon_any {w : World} {o : Nat → Tag} {B hp rp rb nb : Nat} {AO : Option Addr} {cO : Nat} {σ : St} (h : RM w o B hp rp rb nb AO cO σ) (N : Nat) (hw : Well N σ) (x : Ins) (n : Nat) (hx : x.ok n = true) (hop : x.op = 1 ∨ x.op = 2 ∨ x.op = 3 ∨ x.op = 4) :
    Calls Tryz.prog 101 #[.pointer (some ⟨rp, 0, none⟩), .agg #[.int .i64 x.op, .int .i64 x.a, .int .i64 x.b, .int .i64 x.c]] w fun e w' => e = .returned (.tuple #[]) ∧ After w o B hp rp rb nb AO (step x σ).2 w' := by
  obtain ⟨p1, p2, p3⟩ := ok_parts hx
  obtain ⟨c0, c1, c2, c3, c4⟩ := h.cells
  have hn4 := hw.nums
  have hb0 := below_1 w (.cells #[.int .i64 x.op, .int .i64 x.a, .int .i64 x.b, .int .i64 x.c] 58)
  have hr1 := fun n => h.below (below_drewN hb0 n)
  have zr := h.blk.lt
  have zn := h.nums.lt
  have zr1 : rp < w.heap.size + 1 := by omega
  have zn1 : nb < w.heap.size + 1 := by omega
  have ff := h.nums.frozen
  rcases hop with e | e | e | e
  · have hst := step_1 σ e
    rw [e] at p1 p2 p3
    obtain ⟨ia, ea, ha⟩ := num_reg (by decide) p1
    obtain ⟨ib, eb, hb⟩ := num_free p2
    obtain ⟨ic', ec, hc⟩ := num_free p3
    rw [hst]
    dsimp only
    obtain ⟨op, a, b, c⟩ := x
    simp only at e ea eb ec
    subst e ea eb ec
    have d0 := h.numAt hn4 ia ha
    have f0 := ff ia
    have ha' : (ia : Int) < 4 := by omega
    have hbits := bits_rnd ((ib : Int) + 256 * (ic' : Int))
    have HE := Lib.hid (fun ob n v => after_num h ob ia n v)
    clear h hw hx p1 p2 p3 hr1 hb0 hst
    go_enter Tryz.func101, Tryz.ntmps101
    go_wp2
    go_region
    go_wp2
    exact bodyPost_end (results_none rfl _ _ _) rfl ⟨rfl, HE.out _ 1 _⟩
  · have hst := step_2 σ e
    rw [e] at p1 p2 p3
    obtain ⟨ia, ea, ha⟩ := num_reg (by decide) p1
    obtain ⟨ib, eb, hb⟩ := num_reg (by decide) p2
    obtain ⟨ic', ec, hc⟩ := num_reg (by decide) p3
    rw [hst]
    dsimp only
    obtain ⟨op, a, b, c⟩ := x
    simp only at e ea eb ec
    subst e ea eb ec
    have d0 := h.numAt hn4 ia ha
    have d1 := h.numAt hn4 ib hb
    have d2 := h.numAt hn4 ic' hc
    have f0 := ff ia
    have ha' : (ia : Int) < 4 := by omega
    have hb' : (ib : Int) < 4 := by omega
    have hc' : (ic' : Int) < 4 := by omega
    have hv1 := words_gt (ib : Int) hw.numsN
    have hv2 := words_gt (ic' : Int) hw.numsN
    have HE := Lib.hid (fun ob n v => after_num h ob ia n v)
    generalize gt σ.nums (ib : Int) = v1 at *
    generalize gt σ.nums (ic' : Int) = v2 at *
    have hbits := bits_rnd (v1 + v2)
    have hbits2 := bits_rnd (wrap64 (v1 + v2))
    have hround := rnd_wrap (v1 + v2)
    clear h hw hx p1 p2 p3 hr1 hb0 hst ff
    go_enter Tryz.func101, Tryz.ntmps101
    go_wp2
    go_region
    go_wp2
    go_region
    go_wp2
    exact bodyPost_end (results_none rfl _ _ _) rfl ⟨rfl, HE.out _ 2 _⟩
  · have hst := step_3 σ e
    rw [e] at p1 p2 p3
    obtain ⟨ia, ea, ha⟩ := num_reg (by decide) p1
    obtain ⟨ib, eb, hb⟩ := num_reg (by decide) p2
    obtain ⟨ic', ec, hc⟩ := num_reg (by decide) p3
    rw [hst]
    dsimp only
    obtain ⟨op, a, b, c⟩ := x
    simp only at e ea eb ec
    subst e ea eb ec
    have d0 := h.numAt hn4 ia ha
    have d1 := h.numAt hn4 ib hb
    have d2 := h.numAt hn4 ic' hc
    have f0 := ff ia
    have ha' : (ia : Int) < 4 := by omega
    have hb' : (ib : Int) < 4 := by omega
    have hc' : (ic' : Int) < 4 := by omega
    have hv1 := words_gt (ib : Int) hw.numsN
    have hv2 := words_gt (ic' : Int) hw.numsN
    have HE := Lib.hid (fun ob n v => after_num h ob ia n v)
    generalize gt σ.nums (ib : Int) = v1 at *
    generalize gt σ.nums (ic' : Int) = v2 at *
    have hbits := bits_rnd (v1 - v2)
    have hbits2 := bits_rnd (wrap64 (v1 - v2))
    have hround := rnd_wrap (v1 - v2)
    clear h hw hx p1 p2 p3 hr1 hb0 hst ff
    go_enter Tryz.func101, Tryz.ntmps101
    go_wp2
    go_region
    go_wp2
    go_region
    go_wp2
    exact bodyPost_end (results_none rfl _ _ _) rfl ⟨rfl, HE.out _ 2 _⟩
  · have hst := step_4 σ e
    rw [e] at p1 p2 p3
    obtain ⟨ia, ea, ha⟩ := num_reg (by decide) p1
    obtain ⟨ib, eb, hb⟩ := num_reg (by decide) p2
    obtain ⟨ic', ec, hc⟩ := num_reg (by decide) p3
    rw [hst]
    dsimp only
    obtain ⟨op, a, b, c⟩ := x
    simp only at e ea eb ec
    subst e ea eb ec
    have d0 := h.numAt hn4 ia ha
    have d1 := h.numAt hn4 ib hb
    have d2 := h.numAt hn4 ic' hc
    have f0 := ff ia
    have ha' : (ia : Int) < 4 := by omega
    have hb' : (ib : Int) < 4 := by omega
    have hc' : (ic' : Int) < 4 := by omega
    have hv1 := words_gt (ib : Int) hw.numsN
    have hv2 := words_gt (ic' : Int) hw.numsN
    have HE := Lib.hid (fun ob n v => after_num h ob ia n v)
    generalize gt σ.nums (ib : Int) = v1 at *
    generalize gt σ.nums (ic' : Int) = v2 at *
    have hbits := bits_rnd (v1 * v2)
    have hbits2 := bits_rnd (wrap64 (v1 * v2))
    have hround := rnd_wrap (v1 * v2)
    clear h hw hx p1 p2 p3 hr1 hb0 hst ff
    go_enter Tryz.func101, Tryz.ntmps101
    go_wp2
    go_region
    go_wp2
    go_region
    go_wp2
    exact bodyPost_end (results_none rfl _ _ _) rfl ⟨rfl, HE.out _ 2 _⟩

theorem flag_any (b : Bool) (w : World) : Calls Tryz.prog 111 #[.bool b] w fun e w' => e = .returned (.int .i64 (flag b)) ∧ w' = w := by
  cases b
  all_goals
    go_enter Tryz.func111, Tryz.ntmps111
    go_wp2
    go_ret
    exact ⟨rfl, rfl⟩

set_option maxRecDepth 100000 in
set_option maxHeartbeats 1000000 in
theorem name_any {w : World} {o : Nat → Tag} {B hp rp rb nb : Nat} {AO : Option Addr} {cO : Nat} {σ : St} (h : RM w o B hp rp rb nb AO cO σ) (N : Nat) (hw : Well N σ) (x : Ins) (n : Nat) (hx : x.ok n = true) (hop : x.op = 17 ∨ x.op = 18 ∨ x.op = 19 ∨ x.op = 20) :
    Calls Tryz.prog 102 #[.pointer (some ⟨rp, 0, none⟩), .agg #[.int .i64 x.op, .int .i64 x.a, .int .i64 x.b, .int .i64 x.c]] w fun e w' => e = .returned (.tuple #[]) ∧ After w o B hp rp rb nb AO (step x σ).2 w' := by
  obtain ⟨p1, p2, p3⟩ := ok_parts hx
  obtain ⟨c0, c1, c2, c3, c4⟩ := h.cells
  have hn4 := hw.nums
  have hr4 := hw.refs
  have zr := h.blk.lt
  have zn := h.nums.lt
  have zf := h.refs.lt
  have zr1 : rp < w.heap.size + 1 := by omega
  have zn1 : nb < w.heap.size + 1 := by omega
  have zf1 : rb < w.heap.size + 1 := by omega
  rcases hop with e | e | e | e
  · have hst := step_17 σ e
    rw [e] at p1 p2 p3
    obtain ⟨ia, ea, ha⟩ := num_reg (by decide) p1
    obtain ⟨ib, eb, hb⟩ := num_reg (by decide) p2
    rw [hst]
    dsimp only
    obtain ⟨op, a, b, c⟩ := x
    simp only at e ea eb
    subst e ea eb
    have d0 := h.numAt hn4 ia ha
    have d1 := h.refAt hr4 ib hb
    have f0 := h.nums.frozen ia
    have ha' : (ia : Int) < 4 := by omega
    have hb' : (ib : Int) < 4 := by omega
    have HE := Lib.hid (fun ob n v => after_num h ob ia n v)
    generalize gt σ.refs (ib : Int) = v1 at *
    have KF := Lib.hid (flag_any (decide (v1 = 0)))
    have hdd : (v1 == 0) = decide (v1 = 0) := rfl
    clear h hw hx p1 p2 p3 hst
    go_enter Tryz.func102, Tryz.ntmps102
    go_wp2_with fail
    refine wp_region_still_tail 17 (by kernel_rfl) (by kernel_rfl) ?_
    change wpStill _ _ (World.drew _) _ _ _
    simp only [List.take_succ_cons, List.take_zero, List.drop_succ_cons, List.drop_zero]
    repeat still_step
    still_call (KF.out _)
    repeat still_step
    refine wpStill_nil ?_
    change wpList _ _ _ _ _ (World.drew _)
    go_wp2
    exact bodyPost_end (results_none rfl _ _ _) rfl ⟨rfl, HE.out _ 1 _⟩
  · have hst := step_18 σ e
    rw [e] at p1 p2 p3
    obtain ⟨ia, ea, ha⟩ := num_reg (by decide) p1
    obtain ⟨ib, eb, hb⟩ := num_reg (by decide) p2
    obtain ⟨ic', ec, hc⟩ := num_reg (by decide) p3
    rw [hst]
    dsimp only
    obtain ⟨op, a, b, c⟩ := x
    simp only at e ea eb ec
    subst e ea eb ec
    have d0 := h.numAt hn4 ia ha
    have d1 := h.refAt hr4 ib hb
    have d2 := h.refAt hr4 ic' hc
    have f0 := h.nums.frozen ia
    have ha' : (ia : Int) < 4 := by omega
    have hb' : (ib : Int) < 4 := by omega
    have hc' : (ic' : Int) < 4 := by omega
    have HE := Lib.hid (fun ob n v => after_num h ob ia n v)
    generalize gt σ.refs (ib : Int) = v1 at *
    generalize gt σ.refs (ic' : Int) = v2 at *
    have KF := Lib.hid (flag_any (decide (v1 = v2)))
    have hdd : (v1 == v2) = decide (v1 = v2) := rfl
    clear h hw hx p1 p2 p3 hst
    go_enter Tryz.func102, Tryz.ntmps102
    go_wp2_with fail
    refine wp_region_still_tail 25 (by kernel_rfl) (by kernel_rfl) ?_
    change wpStill _ _ (World.drew _) _ _ _
    simp only [List.take_succ_cons, List.take_zero, List.drop_succ_cons, List.drop_zero]
    repeat still_step
    still_call (KF.out _)
    repeat still_step
    refine wpStill_nil ?_
    change wpList _ _ _ _ _ (World.drew _)
    go_wp2
    exact bodyPost_end (results_none rfl _ _ _) rfl ⟨rfl, HE.out _ 1 _⟩
  · have hst := step_19 σ e
    rw [e] at p1 p2 p3
    obtain ⟨ia, ea, ha⟩ := num_reg (by decide) p1
    rw [hst]
    dsimp only
    obtain ⟨op, a, b, c⟩ := x
    simp only at e ea
    subst e ea
    have d0 := h.refAt hr4 ia ha
    have f0 := h.refs.frozen ia
    have ha' : (ia : Int) < 4 := by omega
    have HE := Lib.hid (fun ob n v => after_ref h ob ia n v)
    clear h hw hx p1 p2 p3 hst
    go_enter Tryz.func102, Tryz.ntmps102
    go_wp2_with fail
    refine wp_region_still_tail 7 (by kernel_rfl) (by kernel_rfl) ?_
    change wpStill _ _ (World.drew _) _ _ _
    simp only [List.take_succ_cons, List.take_zero, List.drop_succ_cons, List.drop_zero]
    repeat still_step
    refine wpStill_nil ?_
    change wpList _ _ _ _ _ (World.drew _)
    go_wp2
    exact bodyPost_end (results_none rfl _ _ _) rfl ⟨rfl, HE.out _ 1 _⟩
  · have hst := step_20 σ e
    rw [e] at p1 p2 p3
    obtain ⟨ia, ea, ha⟩ := num_reg (by decide) p1
    obtain ⟨ib, eb, hb⟩ := num_reg (by decide) p2
    rw [hst]
    dsimp only
    obtain ⟨op, a, b, c⟩ := x
    simp only at e ea eb
    subst e ea eb
    have d0 := h.refAt hr4 ia ha
    have d1 := h.refAt hr4 ib hb
    have f0 := h.refs.frozen ia
    have ha' : (ia : Int) < 4 := by omega
    have hb' : (ib : Int) < 4 := by omega
    have HE := Lib.hid (fun ob n v => after_ref h ob ia n v)
    clear h hw hx p1 p2 p3 hst
    go_enter Tryz.func102, Tryz.ntmps102
    go_wp2_with fail
    refine wp_region_still_tail 15 (by kernel_rfl) (by kernel_rfl) ?_
    change wpStill _ _ (World.drew _) _ _ _
    simp only [List.take_succ_cons, List.take_zero, List.drop_succ_cons, List.drop_zero]
    repeat still_step
    refine wpStill_nil ?_
    change wpList _ _ _ _ _ (World.drew _)
    go_wp2
    exact bodyPost_end (results_none rfl _ _ _) rfl ⟨rfl, HE.out _ 1 _⟩

end Go.Proofs.YteminkohgagedaaGreat.Mo
