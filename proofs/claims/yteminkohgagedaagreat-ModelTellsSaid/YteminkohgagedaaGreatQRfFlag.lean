/- The reference's flag. -/
import Derived.Test.YteminkohgagedaaGreatQMoMem
import Derived.StillTailTactics
namespace Go.Proofs.YteminkohgagedaaGreat.Rf
open Go.RowKit Go.Proofs.YteminkohgagedaaGreat.Base Go.Proofs.YteminkohgagedaaGreat.Gr Go.Proofs.YteminkohgagedaaGreat.Ver Go.Proofs.YteminkohgagedaaGreat.Mo
set_option linter.unusedVariables false
set_option linter.unusedSimpArgs false

/-- The 13 cells of a machine: the graph's two slices, four names, four numbers, the slices of the graph that counts, the most cells. -/
structure MC (cs : Array Value) (v0 v1 u0 u1 : Value) (refs nums : List Int) (most : Int) : Prop where
  size : cs.size = 13
  c0 : cs[0]? = some v0
  c1 : cs[1]? = some v1
  a : ∀ i : Nat, i < 4 → cs[2 + i]? = some (.int .i64 (gt refs (i : Int)))
  n : ∀ i : Nat, i < 4 → cs[6 + i]? = some (.int .i64 (gt nums (i : Int)))
  c10 : cs[10]? = some u0
  c11 : cs[11]? = some u1
  c12 : cs[12]? = some (.int .i64 most)
theorem gt_pu {l : List Int} {i j : Nat} {v : Int} (hi : i < l.length) : gt (pu l (i : Int) v) (j : Int) = if j = i then v else gt l (j : Int) := by
  unfold gt pu
  simp only [Int.toNat_natCast, List.getD_eq_getElem?_getD, List.getElem?_set]
  by_cases h : i = j
  · subst h; simp [hi]
  · rw [if_neg h, if_neg (fun e => h e.symm)]
section
variable {cs : Array Value} {v0 v1 u0 u1 : Value} {refs nums : List Int} {most : Int}
theorem MC.ref (h : MC cs v0 v1 u0 u1 refs nums most) (hl : refs.length = 4) (i : Nat) (hi : i < 4) (v : Int) : MC (cs.setIfInBounds (2 + i) (.int .i64 v)) v0 v1 u0 u1 (pu refs (i : Int) v) nums most := by
  have hs := h.size
  refine ⟨by simp [hs], ?_, ?_, fun j hj => ?_, fun j hj => ?_, ?_, ?_, ?_⟩
  · rw [Array.getElem?_setIfInBounds_ne (by omega)]; exact h.c0
  · rw [Array.getElem?_setIfInBounds_ne (by omega)]; exact h.c1
  · rw [gt_pu (by omega)]
    by_cases e : j = i
    · subst e; rw [Array.getElem?_setIfInBounds_self_of_lt (by omega)]; simp
    · rw [Array.getElem?_setIfInBounds_ne (by omega), if_neg e]; exact h.a j hj
  · rw [Array.getElem?_setIfInBounds_ne (by omega)]; exact h.n j hj
  · rw [Array.getElem?_setIfInBounds_ne (by omega)]; exact h.c10
  · rw [Array.getElem?_setIfInBounds_ne (by omega)]; exact h.c11
  · rw [Array.getElem?_setIfInBounds_ne (by omega)]; exact h.c12
theorem MC.num (h : MC cs v0 v1 u0 u1 refs nums most) (hl : nums.length = 4) (i : Nat) (hi : i < 4) (v : Int) : MC (cs.setIfInBounds (6 + i) (.int .i64 v)) v0 v1 u0 u1 refs (pu nums (i : Int) v) most := by
  have hs := h.size
  refine ⟨by simp [hs], ?_, ?_, fun j hj => ?_, fun j hj => ?_, ?_, ?_, ?_⟩
  · rw [Array.getElem?_setIfInBounds_ne (by omega)]; exact h.c0
  · rw [Array.getElem?_setIfInBounds_ne (by omega)]; exact h.c1
  · rw [Array.getElem?_setIfInBounds_ne (by omega)]; exact h.a j hj
  · rw [gt_pu (by omega)]
    by_cases e : j = i
    · subst e; rw [Array.getElem?_setIfInBounds_self_of_lt (by omega)]; simp
    · rw [Array.getElem?_setIfInBounds_ne (by omega), if_neg e]; exact h.n j hj
  · rw [Array.getElem?_setIfInBounds_ne (by omega)]; exact h.c10
  · rw [Array.getElem?_setIfInBounds_ne (by omega)]; exact h.c11
  · rw [Array.getElem?_setIfInBounds_ne (by omega)]; exact h.c12
end

/-- What an instruction may turn: blocks with a tag, but those of the other side (`.roots true`: what is told, and its box, in Run); new blocks may get tags. -/
structure Turn (w w' : World) (o o' : Nat → Tag) : Prop where
  mod : Mod (fun k => o k ≠ .other ∧ (o k).side ≠ some true) w w'
  ext : ∀ k, k < w.heap.size → o' k = o k
theorem Turn.refl (w : World) (o : Nat → Tag) : Turn w w o o := ⟨Mod.refl _ _, fun _ _ => rfl⟩
theorem Turn.trans {w w1 w2 : World} {o o1 o2 : Nat → Tag} (h : Turn w w1 o o1) (k : Turn w1 w2 o1 o2) : Turn w w2 o o2 :=
  ⟨Mod.trans h.mod k.mod (fun b hb e => by rw [h.ext b hb] at e; exact e), fun b hb => (k.ext b (Nat.lt_of_lt_of_le hb h.mod.size)).trans (h.ext b hb)⟩
theorem Turn.of_below {w w' : World} {o : Nat → Tag} (h : Below w.heap.size w w') : Turn w w' o o := ⟨Mod.of_below h, fun _ _ => rfl⟩
/-- What stays whatever the tagged blocks become. -/
def SteadyT (w : World) (B : Nat) (o : Nat → Tag) (v : Value) (g : Gr) : Prop := ∀ w', Mod (fun k => o k ≠ .other ∨ k < B) w w' → GrV w' v g
theorem SteadyT.turn {w w' : World} {B : Nat} {o o' : Nat → Tag} {v : Value} {g : Gr} (h : SteadyT w B o v g) (ht : Turn w w' o o') : SteadyT w' B o' v g := fun w'' hm =>
  h w'' (Mod.trans (ht.mod.mono (fun _ _ h => .inl h.1)) hm (fun b hb e => by rw [ht.ext b hb] at e; exact e))
/-- The reference's machine in memory. -/
structure RMc (w : World) (o : Nat → Tag) (B P : Nat) (A : Option Addr) (c : Nat) (D : Option Addr) (d : Nat) (xs : List Value) (u0 u1 : Value) (cs : Array Value) (σ : St) (most : Int) : Prop where
  g : GM w o false A c D d xs σ.now
  blk : Blk w P 83 cs
  mc : MC cs (.slice A σ.now.roots.length c) (.slice D σ.now.nodes.length d) u0 u1 σ.refs σ.nums most
  oP : o P = .heap
  lo : ∀ k, o k ≠ .other → B ≤ k
  last : SteadyT w B o (.agg #[u0, u1]) σ.last
def RMo (w : World) (o : Nat → Tag) (B P : Nat) (σ : St) (most : Int) : Prop := ∃ A c D d xs u0 u1 cs, RMc w o B P A c D d xs u0 u1 cs σ most
def RDone (w : World) (o : Nat → Tag) (B P : Nat) (most : Int) (σ : St) (w' : World) : Prop := ∃ o', RMo w' o' B P σ most ∧ Turn w w' o o'
section
variable {w w' : World} {o o' : Nat → Tag} {B P : Nat} {A D : Option Addr} {c d : Nat} {xs : List Value} {u0 u1 : Value} {cs : Array Value} {σ : St} {most : Int}
theorem RMc.below (h : RMc w o B P A c D d xs u0 u1 cs σ most) (hb : Below w.heap.size w w') : RMc w' o B P A c D d xs u0 u1 cs σ most :=
  ⟨h.g.mod (Mod.of_below (S := fun _ => False) hb) (fun _ _ e => e.elim) (fun _ _ => rfl), h.blk.below hb h.blk.lt, h.mc, h.oP, h.lo, h.last.turn (Turn.of_below hb)⟩
theorem turn_cell (hP : o P = .heap) (i : Nat) (v : Value) : Turn w (w.setCell ⟨P, i, none⟩ v) o o := ⟨mod_set' (S := fun k => o k ≠ .other ∧ (o k).side ≠ some true) (Mod.refl _ _) (by show o P ≠ .other ∧ (o P).side ≠ some true; rw [hP]; simp [Tag.side]) _, fun _ _ => rfl⟩
theorem RMc.cell (h : RMc w o B P A c D d xs u0 u1 cs σ most) (i : Nat) (v : Value) {refs nums : List Int} {m : Int} (hM : MC (cs.setIfInBounds i v) (.slice A σ.now.roots.length c) (.slice D σ.now.nodes.length d) u0 u1 refs nums m) :
    RMc (w.setCell ⟨P, i, none⟩ v) o B P A c D d xs u0 u1 (cs.setIfInBounds i v) { σ with refs := refs, nums := nums } m :=
  ⟨h.g.mod (mod_set' (S := fun k => k = P) (Mod.refl _ _) rfl _) (by rintro k _ rfl; rw [h.oP]; exact fun h => by cases h) (fun _ _ => rfl), h.blk.set_ i v, hM, h.oP, h.lo, h.last.turn (turn_cell h.oP i v)⟩
theorem RMc.ref (h : RMc w o B P A c D d xs u0 u1 cs σ most) (hr : σ.refs.length = 4) (i : Nat) (hi : i < 4) (v : Int) (ob : Obj) (n : Nat) : RDone w o B P most { σ with refs := pu σ.refs (i : Int) v } (((w.setCell ⟨P, 2 + i, none⟩ (.int .i64 v)).alloc ob).drewN n) := by
  have h1 := h.cell (2 + i) (.int .i64 v) (h.mc.ref hr i hi v)
  have hb := below_drewN (below_1 (w.setCell ⟨P, 2 + i, none⟩ (.int .i64 v)) ob) n
  exact ⟨o, ⟨A, c, D, d, xs, u0, u1, _, h1.below hb⟩, (turn_cell h.oP _ _).trans (Turn.of_below hb)⟩
theorem RMc.num (h : RMc w o B P A c D d xs u0 u1 cs σ most) (hr : σ.nums.length = 4) (i : Nat) (hi : i < 4) (v : Int) (ob : Obj) (n : Nat) : RDone w o B P most { σ with nums := pu σ.nums (i : Int) v } (((w.setCell ⟨P, 6 + i, none⟩ (.int .i64 v)).alloc ob).drewN n) := by
  have h1 := h.cell (6 + i) (.int .i64 v) (h.mc.num hr i hi v)
  have hb := below_drewN (below_1 (w.setCell ⟨P, 6 + i, none⟩ (.int .i64 v)) ob) n
  exact ⟨o, ⟨A, c, D, d, xs, u0, u1, _, h1.below hb⟩, (turn_cell h.oP _ _).trans (Turn.of_below hb)⟩
theorem RMc.same (h : RMc w o B P A c D d xs u0 u1 cs σ most) (ob : Obj) (n : Nat) : RDone w o B P most σ ((w.alloc ob).drewN n) := by
  have hb := below_drewN (below_1 w ob) n
  exact ⟨o, ⟨A, c, D, d, xs, u0, u1, _, h.below hb⟩, Turn.of_below hb⟩
end
theorem reg_of {v k : Int} (hk : k = 2) (h : num v k = true) : ∃ i : Nat, v = (i : Int) ∧ i < 4 := by
  subst hk
  simp only [num, Int.reduceEq, if_false, if_true, decide_eq_true_eq] at h
  exact ⟨v.toNat, by omega, by omega⟩
theorem free_of {v k : Int} (h : num v k = true) : ∃ i : Nat, v = (i : Int) ∧ i ≤ 255 := by
  have := byt_iff (num_byt h)
  exact ⟨v.toNat, by omega, by omega⟩
theorem root_of {v k : Int} (hk : k = 3) (h : num v k = true) : ∃ i : Nat, v = (i : Int) ∧ i < 8 := by
  subst hk
  simp only [num, Int.reduceEq, if_false, if_true, decide_eq_true_eq] at h
  exact ⟨v.toNat, by omega, by omega⟩
theorem okp {x : Ins} {n : Int} (h : x.ok n = true) : num x.a (shp x.op).1 = true ∧ num x.b (shp x.op).2.1 = true ∧ num x.c (shp x.op).2.2 = true := by
  simp only [Ins.ok, one, Bool.and_eq_true] at h
  exact h.1.1.2

/-- What the reference's machine does: its commit numbers the graph. -/
def rstep (x : Ins) (σ : St) : Int × St := if x.op = 14 then (0, { σ with last := number σ.now }) else Mo.step x σ
def told (x : Ins) (σ : St) : Int := if x.op = 16 then gt σ.nums x.a else -1
/-- What Do is to tell and to leave. -/
def DoPost (w : World) (o : Nat → Tag) (B P : Nat) (most : Int) (x : Ins) (at_ : Nat) (σ : St) (e : Ending) (w' : World) : Prop :=
  e = .returned (.tuple #[.int .i64 ((rstep x { σ with pc := at_ + 1 }).2.pc : Int), .int .i64 (told x σ), .int .i64 (rstep x { σ with pc := at_ + 1 }).1]) ∧ RDone w o B P most (rstep x { σ with pc := at_ + 1 }).2 w'
theorem RMo.pc {w : World} {o : Nat → Tag} {B P : Nat} {σ : St} {most : Int} (h : RMo w o B P σ most) (k : Nat) (l : List Int) : RMo w o B P { σ with pc := k, outs := l } most := by
  obtain ⟨A, c, D, d, xs, u0, u1, cs, h⟩ := h
  exact ⟨A, c, D, d, xs, u0, u1, cs, h.g, h.blk, h.mc, h.oP, h.lo, h.last⟩
theorem RDone.pc {w w' : World} {o : Nat → Tag} {B P : Nat} {σ : St} {most : Int} (h : RDone w o B P most σ w') (k : Nat) (l : List Int) : RDone w o B P most { σ with pc := k, outs := l } w' := by
  obtain ⟨o', h1, h2⟩ := h
  exact ⟨o', h1.pc k l, h2⟩
end Go.Proofs.YteminkohgagedaaGreat.Rf
namespace Go.Proofs.YteminkohgagedaaGreat.Rf
open Go.RowKit Go.Proofs.YteminkohgagedaaGreat.Base Go.Proofs.YteminkohgagedaaGreat.Gr Go.Proofs.YteminkohgagedaaGreat.Ver Go.Proofs.YteminkohgagedaaGreat.Mo
set_option linter.unusedVariables false
set_option linter.unusedSimpArgs false

section
variable {w w' : World} {o o' : Nat → Tag} {B P : Nat} {A D : Option Addr} {c d : Nat} {xs : List Value} {u0 u1 : Value} {cs : Array Value} {σ : St} {most : Int}
theorem turn_set {G : Nat} (hG : o G ≠ .other ∧ (o G).side ≠ some true) (i : Nat) (v : Value) : Turn w (w.setCell ⟨G, i, none⟩ v) o o := ⟨mod_set' (S := fun k => o k ≠ .other ∧ (o k).side ≠ some true) (Mod.refl _ _) hG _, fun _ _ => rfl⟩
/-- One cell of the graph is turned. -/
theorem RMc.into (h : RMc w o B P A c D d xs u0 u1 cs σ most) {G : Nat} (hG : o G ≠ .other ∧ (o G).side ≠ some true) (hGP : G ≠ P) (i : Nat) (v : Value) (g' : Gr) (hg : GM (w.setCell ⟨G, i, none⟩ v) o false A c D d xs g') (hr : g'.roots.length = σ.now.roots.length) (hn : g'.nodes.length = σ.now.nodes.length) :
    RMc (w.setCell ⟨G, i, none⟩ v) o B P A c D d xs u0 u1 cs { σ with now := g' } most := by
  refine ⟨hg, h.blk.far (p := ⟨G, i, none⟩) (fun e => hGP e.symm) _, ?_, h.oP, h.lo, h.last.turn (turn_set hG i v)⟩
  have hm := h.mc
  rw [← hr, ← hn] at hm
  exact hm
theorem RMc.ne (h : RMc w o B P A c D d xs u0 u1 cs σ most) {G : Nat} (hG : o G ≠ .heap) : G ≠ P := fun e => hG (by rw [e]; exact h.oP)
theorem RMc.root (h : RMc w o B P A c D d xs u0 u1 cs σ most) {G : Nat} (hA : A = some ⟨G, 0, none⟩) (i : Nat) (v : Int) (ob : Obj) (n : Nat) :
    RDone w o B P most { σ with now := ⟨pu σ.now.roots (i : Int) v, σ.now.nodes⟩ } (((w.setCell ⟨G, i, none⟩ (.int .i64 v)).alloc ob).drewN n) := by
  subst hA
  have hG : o G = .roots false := h.g.roots.2 _ rfl
  have hGo : o G ≠ .other ∧ (o G).side ≠ some true := by rw [hG]; simp [Tag.side]
  have hm : Mod (fun k => k = G) w (w.setCell ⟨G, i, none⟩ (.int .i64 v)) := mod_set' (S := fun k => k = G) (Mod.refl _ _) rfl _
  have hg : GM (w.setCell ⟨G, i, none⟩ (.int .i64 v)) o false (some ⟨G, 0, none⟩) c D d xs ⟨pu σ.now.roots (i : Int) v, σ.now.nodes⟩ := by
    refine ⟨h.g.roots.set i v, ?_⟩
    have hn := h.g.nodes
    refine ⟨own_mod hn.own hm (fun k hk hs => ?_), hn.tag, fun j hj => ?_⟩
    · obtain ⟨ad, e, rfl⟩ := block_iff hk
      have := hn.tag ad e
      rw [hs, hG] at this
      cases this
    · obtain ⟨A1, c1, B1, d1, y1, y2, k1, k2⟩ := hn.built j hj
      exact ⟨A1, c1, B1, d1, y1, y2, k1.mod hm (fun k _ e e2 => by rw [e, hG] at e2; cases e2) (fun _ _ => rfl), k2.mod hm (fun k _ e e2 => by rw [e, hG] at e2; cases e2) (fun _ _ => rfl)⟩
  have h1 := h.into hGo (h.ne (by rw [hG]; exact fun h => by cases h)) i (.int .i64 v) _ hg (pu_len _ _ _) rfl
  have hb := below_drewN (below_1 (w.setCell ⟨G, i, none⟩ (.int .i64 v)) ob) n
  exact ⟨o, ⟨_, c, D, d, xs, u0, u1, cs, h1.below hb⟩, (turn_set hGo _ _).trans (Turn.of_below hb)⟩
theorem RMc.slot (h : RMc w o B P A c D d xs u0 u1 cs σ most) {j G q : Nat} (hj : j < σ.now.nodes.length) (hx : xs[j * 2]? = some (.slice (some ⟨G, 0, none⟩) σ.now.nodes[j].slots.length q)) (hG : o G = .slots false j) (i : Nat) (v : Int) :
    RMc (w.setCell ⟨G, i, none⟩ (.int .i64 v)) o B P A c D d xs u0 u1 cs { σ with now := setSlot σ.now ((j : Int) + 1) (i : Int) v } most ∧ Turn w (w.setCell ⟨G, i, none⟩ (.int .i64 v)) o o := by
  have hGo : o G ≠ .other ∧ (o G).side ≠ some true := by rw [hG]; simp [Tag.side]
  have hm : Mod (fun k => k = G) w (w.setCell ⟨G, i, none⟩ (.int .i64 v)) := mod_set' (S := fun k => k = G) (Mod.refl _ _) rfl _
  have e : setSlot σ.now ((j : Int) + 1) (i : Int) v = ⟨σ.now.roots, σ.now.nodes.set j ⟨pu σ.now.nodes[j].slots (i : Int) v, σ.now.nodes[j].words⟩⟩ := by
    unfold setSlot
    rw [nd_nat hj, show ((j : Int) + 1 - 1).toNat = j by omega]
  rw [e]
  exact ⟨h.into hGo (h.ne (by rw [hG]; exact fun h => by cases h)) i (.int .i64 v) _ ⟨h.g.roots.mod hm (fun k _ e e2 => by rw [e, hG] at e2; cases e2) (fun _ _ => rfl), h.g.nodes.slot hj hx i v⟩ rfl List.length_set, turn_set hGo _ _⟩
theorem RMc.word (h : RMc w o B P A c D d xs u0 u1 cs σ most) {j G q : Nat} (hj : j < σ.now.nodes.length) (hx : xs[j * 2 + 1]? = some (.slice (some ⟨G, 0, none⟩) σ.now.nodes[j].words.length q)) (hG : o G = .words false j) (i : Nat) (v : Int) :
    RMc (w.setCell ⟨G, i, none⟩ (.int .i64 v)) o B P A c D d xs u0 u1 cs { σ with now := setWord σ.now ((j : Int) + 1) (i : Int) v } most ∧ Turn w (w.setCell ⟨G, i, none⟩ (.int .i64 v)) o o := by
  have hGo : o G ≠ .other ∧ (o G).side ≠ some true := by rw [hG]; simp [Tag.side]
  have hm : Mod (fun k => k = G) w (w.setCell ⟨G, i, none⟩ (.int .i64 v)) := mod_set' (S := fun k => k = G) (Mod.refl _ _) rfl _
  have e : setWord σ.now ((j : Int) + 1) (i : Int) v = ⟨σ.now.roots, σ.now.nodes.set j ⟨σ.now.nodes[j].slots, pu σ.now.nodes[j].words (i : Int) v⟩⟩ := by
    unfold setWord
    rw [nd_nat hj, show ((j : Int) + 1 - 1).toNat = j by omega]
  rw [e]
  exact ⟨h.into hGo (h.ne (by rw [hG]; exact fun h => by cases h)) i (.int .i64 v) _ ⟨h.g.roots.mod hm (fun k _ e e2 => by rw [e, hG] at e2; cases e2) (fun _ _ => rfl), h.g.nodes.word hj hx i v⟩ rfl List.length_set, turn_set hGo _ _⟩
theorem RMc.refW (h : RMc w o B P A c D d xs u0 u1 cs σ most) (hr : σ.refs.length = 4) (i : Nat) (hi : i < 4) (v : Int) (ob : Obj) (n : Nat) : RDone w o B P most { σ with refs := pu σ.refs (i : Int) v } (((w.alloc ob).drewN n).setCell ⟨P, 2 + i, none⟩ (.int .i64 v)) := by
  have hb := below_drewN (below_1 w ob) n
  exact ⟨o, ⟨A, c, D, d, xs, u0, u1, _, (h.below hb).cell (2 + i) (.int .i64 v) (h.mc.ref hr i hi v)⟩, (Turn.of_below hb).trans (Rf.turn_cell h.oP _ _)⟩
theorem RMc.numW (h : RMc w o B P A c D d xs u0 u1 cs σ most) (hr : σ.nums.length = 4) (i : Nat) (hi : i < 4) (v : Int) (ob : Obj) (n : Nat) : RDone w o B P most { σ with nums := pu σ.nums (i : Int) v } (((w.alloc ob).drewN n).setCell ⟨P, 6 + i, none⟩ (.int .i64 v)) := by
  have hb := below_drewN (below_1 w ob) n
  exact ⟨o, ⟨A, c, D, d, xs, u0, u1, _, (h.below hb).cell (6 + i) (.int .i64 v) (h.mc.num hr i hi v)⟩, (Turn.of_below hb).trans (Rf.turn_cell h.oP _ _)⟩
theorem RMc.slotW (h : RMc w o B P A c D d xs u0 u1 cs σ most) {j G q : Nat} (hj : j < σ.now.nodes.length) (hx : xs[j * 2]? = some (.slice (some ⟨G, 0, none⟩) σ.now.nodes[j].slots.length q)) (hG : o G = .slots false j) (i : Nat) (v : Int) (ob : Obj) (n : Nat) :
    RDone w o B P most { σ with now := setSlot σ.now ((j : Int) + 1) (i : Int) v } (((w.alloc ob).drewN n).setCell ⟨G, i, none⟩ (.int .i64 v)) := by
  have hb := below_drewN (below_1 w ob) n
  obtain ⟨h1, h2⟩ := (h.below hb).slot hj hx hG i v
  exact ⟨o, ⟨A, c, D, d, xs, u0, u1, _, h1⟩, (Turn.of_below hb).trans h2⟩
theorem RMc.wordW (h : RMc w o B P A c D d xs u0 u1 cs σ most) {j G q : Nat} (hj : j < σ.now.nodes.length) (hx : xs[j * 2 + 1]? = some (.slice (some ⟨G, 0, none⟩) σ.now.nodes[j].words.length q)) (hG : o G = .words false j) (i : Nat) (v : Int) (ob : Obj) (n : Nat) :
    RDone w o B P most { σ with now := setWord σ.now ((j : Int) + 1) (i : Int) v } (((w.alloc ob).drewN n).setCell ⟨G, i, none⟩ (.int .i64 v)) := by
  have hb := below_drewN (below_1 w ob) n
  obtain ⟨h1, h2⟩ := (h.below hb).word hj hx hG i v
  exact ⟨o, ⟨A, c, D, d, xs, u0, u1, _, h1⟩, (Turn.of_below hb).trans h2⟩
theorem RMc.done2 (h : RMc w' o B P A c D d xs u0 u1 cs σ most) (ht : Turn w w' o o) (ob : Obj) (n : Nat) : RDone w o B P most σ ((w'.alloc ob).drewN n) :=
  ⟨o, ⟨A, c, D, d, xs, u0, u1, cs, h.below (below_drewN (below_1 _ _) n)⟩, ht.trans (Turn.of_below (below_drewN (below_1 _ _) n))⟩
theorem RMc.done (h : RMc w' o B P A c D d xs u0 u1 cs σ most) (ht : Turn w w' o o) (n : Nat) : RDone w o B P most σ (w'.drewN n) :=
  ⟨o, ⟨A, c, D, d, xs, u0, u1, cs, h.below (below_drewN (Below.refl _ _) n)⟩, ht.trans (Turn.of_below (below_drewN (Below.refl _ _) n))⟩
end

set_option maxRecDepth 100000 in
theorem rnode_nil (w : World) (P ia : Nat) (ha : ia < 4) (hc : w.cell? ⟨P, 2 + ia, none⟩ = some (.int .i64 0)) :
    Calls Tryz.prog 108 #[.pointer (some ⟨P, 0, none⟩), .int .i64 (ia : Int)] w fun e w' => e = .returned (.tuple #[.pointer none, .int .i64 7]) ∧ w' = w := by
  have ha1 : (ia : Int) < 4 := by omega
  go_enter Tryz.func108, Tryz.ntmps108
  go_wp2
  go_ret2
  exact ⟨rfl, rfl⟩
set_option maxRecDepth 100000 in
theorem rnode_at (w : World) (P ia j M n d : Nat) (ha : ia < 4) (hc : w.cell? ⟨P, 2 + ia, none⟩ = some (.int .i64 ((j : Int) + 1))) (hN : w.cell? ⟨P, 1, none⟩ = some (.slice (some ⟨M, 0, none⟩) n d)) (hj : j < n) (hn : n ≤ 100000) :
    Calls Tryz.prog 108 #[.pointer (some ⟨P, 0, none⟩), .int .i64 (ia : Int)] w fun e w' => e = .returned (.tuple #[.pointer (some ⟨M, j * 2, none⟩), .int .i64 0]) ∧ ∃ q, w' = w.drewN q := by
  have ha1 : (ia : Int) < 4 := by omega
  have hz : ((j : Int) + 1 == 0) = false := beq_eq_false_iff_ne.mpr (by omega)
  go_enter Tryz.func108, Tryz.ntmps108
  go_wp2_with fail
  go_quiet (fail)
  go_wp2
  go_ret2
  exact ⟨rfl, _, rfl⟩
end Go.Proofs.YteminkohgagedaaGreat.Rf
namespace Go.Proofs.YteminkohgagedaaGreat.Rf
open Go.RowKit Go.Proofs.YteminkohgagedaaGreat.Base Go.Proofs.YteminkohgagedaaGreat.Gr Go.Proofs.YteminkohgagedaaGreat.Ver Go.Proofs.YteminkohgagedaaGreat.Mo
set_option linter.unusedVariables false
set_option linter.unusedSimpArgs false

theorem rflag_any (b : Bool) (w : World) : Calls Tryz.prog 83 #[.bool b] w fun e w' => e = .returned (.int .i64 (flag b)) ∧ w' = w := by
  cases b
  · go_enter Tryz.func83, Tryz.ntmps83
    go_wp2
    go_ret
    exact ⟨rfl, rfl⟩
  · go_enter Tryz.func83, Tryz.ntmps83
    go_wp2
    go_ret
    exact ⟨rfl, rfl⟩
end Go.Proofs.YteminkohgagedaaGreat.Rf
