/- How the machine's two graphs lie in memory: every list in a block of its own, told apart by tags. -/
import Derived.Test.YteminkohgagedaaMoPlain
import Derived.Test.YteminkohgagedaaGrRows
namespace Go.Proofs.Yteminkohgagedaa.Mo
open Go.RowKit Go.Proofs.Yteminkohgagedaa.Base Go.Proofs.Yteminkohgagedaa.Gr Go.Proofs.Yteminkohgagedaa.Ver
set_option linter.unusedVariables false
set_option linter.unusedSimpArgs false

/-- What a block is for; b: of the graph that counts. -/
inductive Tag where
  | other
  | heap
  | roots (b : Bool)
  | nodes (b : Bool)
  | slots (b : Bool) (j : Nat)
  | words (b : Bool) (j : Nat)
deriving DecidableEq
def Tag.side : Tag → Option Bool
  | .other => none
  | .heap => none
  | .roots b => some b
  | .nodes b => some b
  | .slots b _ => some b
  | .words b _ => some b

/-! ### rows of one's own: a cell is written -/
theorem own_set {w : World} {base e n c g : Nat} {xs : List Value} (h : w.ownsRow base e 1 (.slice (some ⟨g, 0, none⟩) n c) n xs) (i : Nat) (u : Value) : (w.setCell ⟨g, i, none⟩ u).ownsRow base e 1 (.slice (some ⟨g, 0, none⟩) n c) n (xs.set i u) := by
  obtain ⟨h1, h2⟩ := h
  rcases h2 with ⟨h2, _⟩ | ⟨g', cap, cur, e1, hg, hh, hn, hc, hs, ht⟩
  · cases h2
  · injection e1 with e1 e2 e3
    injection e1 with e1
    injection e1 with e1
    subst e1 e3
    refine ⟨by rw [List.length_set]; exact h1, .inr ⟨g, c, cur.setIfInBounds i u, rfl, hg, Blk.set_ (w := w) hh i u, hn, hc, by rw [Array.size_setIfInBounds]; exact hs, ?_⟩⟩
    rw [Array.toList_setIfInBounds, List.take_set, ht]
theorem own_set2 {w : World} {base e n c g : Nat} {xs : List Value} (h : w.ownsRow base e 2 (.slice (some ⟨g, 0, none⟩) n c) n xs) (i : Nat) (u : Value) : (w.setCell ⟨g, i, none⟩ u).ownsRow base e 2 (.slice (some ⟨g, 0, none⟩) n c) n (xs.set i u) := by
  obtain ⟨h1, h2⟩ := h
  rcases h2 with ⟨h2, _⟩ | ⟨g', cap, cur, e1, hg, hh, hn, hc, hs, ht⟩
  · cases h2
  · injection e1 with e1 e2 e3
    injection e1 with e1
    injection e1 with e1
    subst e1 e3
    refine ⟨by rw [List.length_set]; exact h1, .inr ⟨g, c, cur.setIfInBounds i u, rfl, hg, Blk.set_ (w := w) hh i u, hn, hc, by rw [Array.size_setIfInBounds]; exact hs, ?_⟩⟩
    rw [Array.toList_setIfInBounds, List.take_set, ht]
theorem own_some {w : World} {base e size n c : Nat} {A : Option Addr} {xs : List Value} (h : w.ownsRow base e size (.slice A n c) n xs) (h0 : 0 < n) : ∃ g, A = some ⟨g, 0, none⟩ := by
  rcases h.2 with ⟨h2, h3⟩ | ⟨g', cap, cur, e1, hg, hh, hn, hc, hs, ht⟩
  · omega
  · injection e1 with e1 e2 e3
    exact ⟨g', e1⟩
theorem own_frozen {w : World} {base e size n c g : Nat} {xs : List Value} (h : w.ownsRow base e size (.slice (some ⟨g, 0, none⟩) n c) n xs) (i : Nat) : w.frozen? ⟨g, i, none⟩ = false := by
  rcases h.2 with ⟨h2, h3⟩ | ⟨g', cap, cur, e1, hg, hh, hn, hc, hs, ht⟩
  · cases h2
  · injection e1 with e1 e2 e3
    injection e1 with e1
    injection e1 with e1
    subst e1
    exact Blk.frozen (w := w) hh i
theorem own_cell {w : World} {base e size n c g : Nat} {xs : List Value} (h : w.ownsRow base e size (.slice (some ⟨g, 0, none⟩) n c) n xs) (i : Nat) (hi : i < xs.length) : w.cell? ⟨g, i, none⟩ = some xs[i] := by
  have hr := Reads.of_own h
  obtain ⟨ad, e1, hc⟩ := hr.2 (by omega)
  injection e1 with e1
  subst e1
  have := hc i xs[i] (List.getElem?_eq_getElem hi)
  rwa [add_of_zero] at this
theorem ic_pu (l : List Int) (i : Nat) (v : Int) : enc ic (pu l i v) = (enc ic l).set i (.int .i64 v) := by
  rw [enc_ic, enc_ic, pu, Int.toNat_natCast, List.map_set]
theorem own_nil_any (w : World) (base e size : Nat) : w.ownsRow base e size (.slice none 0 0) 0 (enc ic []) := own_nil _ _ _ _

/-! ### a list of numbers -/
/-- A list of numbers in a block for t. -/
def Pc (w : World) (o : Nat → Tag) (t : Tag) (A : Option Addr) (c : Nat) (l : List Int) : Prop :=
  w.ownsRow 0 3 1 (.slice A l.length c) l.length (enc ic l) ∧ ∀ ad, A = some ad → o ad.block = t
theorem block_some {ad : Addr} {n c : Nat} : ∀ k, (Value.slice (some ad) n c).ownBlock = some k ↔ k = ad.block := by
  intro k
  simp only [Value.ownBlock, Option.some.injEq]
  exact ⟨fun h => h.symm, fun h => h.symm⟩
theorem block_iff {A : Option Addr} {n c k : Nat} (h : (Value.slice A n c).ownBlock = some k) : ∃ ad, A = some ad ∧ ad.block = k := by
  cases A with
  | none => simp [Value.ownBlock] at h
  | some ad => exact ⟨ad, rfl, by simpa [Value.ownBlock] using h⟩
section
variable {w w' : World} {o o' : Nat → Tag} {t : Tag} {A : Option Addr} {c : Nat} {l : List Int} {S : Nat → Prop}
theorem Pc.lt (h : Pc w o t A c l) {ad : Addr} (e : A = some ad) : ad.block < w.heap.size := (own_block h.1 ad.block (by rw [e]; rfl)).2
theorem Pc.mod (h : Pc w o t A c l) (hm : Mod S w w') (hS : ∀ k, k < w.heap.size → S k → o k ≠ t) (ho : ∀ k, k < w.heap.size → o' k = o k) : Pc w' o' t A c l :=
  ⟨own_mod h.1 hm (fun k hk hs => by
    obtain ⟨ad, e, rfl⟩ := block_iff hk
    exact hS _ (h.lt e) hs (h.2 ad e)), fun ad e => by rw [ho _ (h.lt e)]; exact h.2 ad e⟩
theorem Pc.below (h : Pc w o t A c l) (hb : Below w.heap.size w w') (ho : ∀ k, k < w.heap.size → o' k = o k) : Pc w' o' t A c l := h.mod (Mod.of_below (S := fun _ => False) hb) (fun _ _ h => h.elim) ho
theorem Pc.ints (h : Pc w o t A c l) (hl : l.length ≤ 17592186044416) : Ints w A l := Ints.of_own h.1 hl
theorem Pc.retag (h : Pc w o t A c l) (ht : t ≠ .other) (ho : ∀ k, o k ≠ .other → o' k = o k) : Pc w o' t A c l :=
  ⟨h.1, fun ad e => by
    have := h.2 ad e
    rw [ho _ (by rw [this]; exact ht)]
    exact this⟩
theorem Pc.some_ (h : Pc w o t A c l) (h0 : 0 < l.length) : ∃ g, A = some ⟨g, 0, none⟩ ∧ g < w.heap.size ∧ o g = t := by
  obtain ⟨g, rfl⟩ := own_some h.1 h0
  exact ⟨g, rfl, h.lt rfl, h.2 _ rfl⟩
theorem Pc.cell {g : Nat} (h : Pc w o t (some ⟨g, 0, none⟩) c l) (i : Nat) (hi : i < l.length) : w.cell? ⟨g, i, none⟩ = some (.int .i64 l[i]) := by
  have := own_cell h.1 i (by rw [enc_len ic_len]; omega)
  rw [this]
  congr 1
  simp [enc_ic]
theorem Pc.frozen {g : Nat} (h : Pc w o t (some ⟨g, 0, none⟩) c l) (i : Nat) : w.frozen? ⟨g, i, none⟩ = false := own_frozen h.1 i
theorem Pc.set {g : Nat} (h : Pc w o t (some ⟨g, 0, none⟩) c l) (i : Nat) (v : Int) : Pc (w.setCell ⟨g, i, none⟩ (.int .i64 v)) o t (some ⟨g, 0, none⟩) c (pu l i v) := by
  refine ⟨?_, h.2⟩
  rw [pu_len, ic_pu]
  exact own_set h.1 i _
end

/-! ### a row of nodes, a graph -/
structure NM (w : World) (o : Nat → Tag) (b : Bool) (D : Option Addr) (d : Nat) (xs : List Value) (ns : List Nd) : Prop where
  own : w.ownsRow 0 52 2 (.slice D ns.length d) ns.length xs
  tag : ∀ ad, D = some ad → o ad.block = .nodes b
  built : ∀ j, (h : j < ns.length) → ∃ A c B d, xs[j * 2]? = some (.slice A ns[j].slots.length c) ∧ xs[j * 2 + 1]? = some (.slice B ns[j].words.length d) ∧ Pc w o (.slots b j) A c ns[j].slots ∧ Pc w o (.words b j) B d ns[j].words
structure GM (w : World) (o : Nat → Tag) (b : Bool) (A : Option Addr) (c : Nat) (D : Option Addr) (d : Nat) (xs : List Value) (g : Gr) : Prop where
  roots : Pc w o (.roots b) A c g.roots
  nodes : NM w o b D d xs g.nodes
section
variable {w w' : World} {o o' : Nat → Tag} {b : Bool} {A D : Option Addr} {c d : Nat} {xs : List Value} {ns : List Nd} {g : Gr} {S : Nat → Prop}
theorem NM.lt (h : NM w o b D d xs ns) {ad : Addr} (e : D = some ad) : ad.block < w.heap.size := (own_block h.own ad.block (by rw [e]; rfl)).2
theorem NM.mod (h : NM w o b D d xs ns) (hm : Mod S w w') (hS : ∀ k, k < w.heap.size → S k → (o k).side ≠ some b) (ho : ∀ k, k < w.heap.size → o' k = o k) : NM w' o' b D d xs ns := by
  refine ⟨own_mod h.own hm (fun k hk hs => ?_), fun ad e => by rw [ho _ (h.lt e)]; exact h.tag ad e, fun j hj => ?_⟩
  · obtain ⟨ad, e, rfl⟩ := block_iff hk
    have := hS _ (h.lt e) hs
    rw [h.tag ad e] at this
    exact this rfl
  · obtain ⟨A', c', B', d', x1, x2, p1, p2⟩ := h.built j hj
    refine ⟨A', c', B', d', x1, x2, p1.mod hm (fun k hk hs e => ?_) ho, p2.mod hm (fun k hk hs e => ?_) ho⟩
    · have := hS k hk hs; rw [e] at this; exact this rfl
    · have := hS k hk hs; rw [e] at this; exact this rfl
theorem GM.mod (h : GM w o b A c D d xs g) (hm : Mod S w w') (hS : ∀ k, k < w.heap.size → S k → (o k).side ≠ some b) (ho : ∀ k, k < w.heap.size → o' k = o k) : GM w' o' b A c D d xs g :=
  ⟨h.roots.mod hm (fun k hk hs e => by have := hS k hk hs; rw [e] at this; exact this rfl) ho, h.nodes.mod hm hS ho⟩
theorem NM.retag (h : NM w o b D d xs ns) (ho : ∀ k, o k ≠ .other → o' k = o k) : NM w o' b D d xs ns := by
  refine ⟨h.own, fun ad e => ?_, fun j hj => ?_⟩
  · have := h.tag ad e
    rw [ho _ (by rw [this]; exact fun h => by cases h)]
    exact this
  · obtain ⟨A', c', B', d', x1, x2, p1, p2⟩ := h.built j hj
    exact ⟨A', c', B', d', x1, x2, p1.retag (fun h => by cases h) ho, p2.retag (fun h => by cases h) ho⟩
theorem GM.retag (h : GM w o b A c D d xs g) (ho : ∀ k, o k ≠ .other → o' k = o k) : GM w o' b A c D d xs g := ⟨h.roots.retag (fun h => by cases h) ho, h.nodes.retag ho⟩
/-- To be read. -/
theorem NM.reads (h : NM w o b D d xs ns) (hl : ns.length ≤ 17592186044416) (hx : ∀ x ∈ ns, x.slots.length ≤ 15 ∧ x.words.length ≤ 30) : Nodes w D ns := by
  refine ⟨hl, fun i hi => ?_⟩
  obtain ⟨A', c', B', d', x1, x2, i1, i2⟩ := h.built i hi
  have hx' := hx _ (List.getElem_mem hi)
  have hr := Reads.of_own h.own
  obtain ⟨ad, rfl, hc⟩ := hr.2 (by rw [hr.1]; omega)
  refine ⟨ad, rfl, A', c', B', d', hc _ _ x1, ?_, i1.ints (by omega), i2.ints (by omega)⟩
  have h2 := hc _ _ x2
  rw [← add_of_add] at h2
  exact h2
theorem sound_small {N : Nat} {g : Gr} (h : Sound N g) : ∀ x ∈ g.nodes, x.slots.length ≤ 15 ∧ x.words.length ≤ 30 := fun x hx => by
  have := ndOk_iff.1 (h.nodes x hx)
  exact ⟨this.1, this.2.1⟩
/-- The j-th node of a row. -/
theorem NM.at_ (h : NM w o b D d xs ns) (j : Nat) (hj : j < ns.length) : ∃ M A c B d', D = some ⟨M, 0, none⟩ ∧ M < w.heap.size ∧ o M = .nodes b ∧ w.cell? ⟨M, j * 2, none⟩ = some (.slice A ns[j].slots.length c) ∧ w.cell? ⟨M, j * 2 + 1, none⟩ = some (.slice B ns[j].words.length d') ∧
    Pc w o (.slots b j) A c ns[j].slots ∧ Pc w o (.words b j) B d' ns[j].words := by
  obtain ⟨M, rfl⟩ := own_some h.own (by omega)
  obtain ⟨A', c', B', d', x1, x2, i1, i2⟩ := h.built j hj
  have hc := (Reads.of_own h.own).2 (by rw [h.own.1]; omega)
  obtain ⟨ad, e, hc⟩ := hc
  injection e with e
  subst e
  have y1 := hc _ _ x1
  have y2 := hc _ _ x2
  rw [add_of_zero] at y1 y2
  exact ⟨M, A', c', B', d', rfl, h.lt rfl, h.tag _ rfl, y1, y2, i1, i2⟩
/-- A slot is written: all others stay. -/
theorem NM.slot {j G c' : Nat} (h : NM w o b D d xs ns) (hj : j < ns.length) (hx : xs[j * 2]? = some (.slice (some ⟨G, 0, none⟩) ns[j].slots.length c')) (i : Nat) (v : Int) :
    NM (w.setCell ⟨G, i, none⟩ (.int .i64 v)) o b D d xs (ns.set j ⟨pu ns[j].slots i v, ns[j].words⟩) := by
  obtain ⟨A0, c0, B0, d0, x1, x2, i1, i2⟩ := h.built j hj
  rw [hx] at x1
  injection x1 with x1
  injection x1 with x1 x1' x1''
  subst x1 x1''
  have hG : o G = .slots b j := i1.2 _ rfl
  have hm : Mod (fun k => k = G) w (w.setCell ⟨G, i, none⟩ (.int .i64 v)) := mod_set' (S := fun k => k = G) (Mod.refl _ _) rfl _
  have hlen : (ns.set j ⟨pu ns[j].slots i v, ns[j].words⟩).length = ns.length := List.length_set
  refine ⟨?_, h.tag, fun q hq => ?_⟩
  · rw [hlen]
    refine own_mod h.own hm (fun k hk hs => ?_)
    obtain ⟨ad, e, rfl⟩ := block_iff hk
    have := h.tag ad e
    rw [hs, hG] at this
    cases this
  · rw [hlen] at hq
    by_cases hqj : q = j
    · subst hqj
      simp only [List.getElem_set_self, pu_len]
      refine ⟨_, _, B0, d0, hx, x2, i1.set i v, i2.mod hm (fun k _ hs e => ?_) (fun _ _ => rfl)⟩
      subst hs
      rw [hG] at e
      cases e
    · rw [List.getElem_set_ne (Ne.symm hqj)]
      obtain ⟨A1, c1, B1, d1, y1, y2, k1, k2⟩ := h.built q hq
      refine ⟨A1, c1, B1, d1, y1, y2, k1.mod hm (fun k _ hs e => ?_) (fun _ _ => rfl), k2.mod hm (fun k _ hs e => ?_) (fun _ _ => rfl)⟩
      · subst hs
        rw [hG] at e
        injection e with _ e
        exact hqj e.symm
      · subst hs
        rw [hG] at e
        cases e
theorem NM.word {j G c' : Nat} (h : NM w o b D d xs ns) (hj : j < ns.length) (hx : xs[j * 2 + 1]? = some (.slice (some ⟨G, 0, none⟩) ns[j].words.length c')) (i : Nat) (v : Int) :
    NM (w.setCell ⟨G, i, none⟩ (.int .i64 v)) o b D d xs (ns.set j ⟨ns[j].slots, pu ns[j].words i v⟩) := by
  obtain ⟨A0, c0, B0, d0, x1, x2, i1, i2⟩ := h.built j hj
  rw [hx] at x2
  injection x2 with x2
  injection x2 with x2 x2' x2''
  subst x2 x2''
  have hG : o G = .words b j := i2.2 _ rfl
  have hm : Mod (fun k => k = G) w (w.setCell ⟨G, i, none⟩ (.int .i64 v)) := mod_set' (S := fun k => k = G) (Mod.refl _ _) rfl _
  have hlen : (ns.set j ⟨ns[j].slots, pu ns[j].words i v⟩).length = ns.length := List.length_set
  refine ⟨?_, h.tag, fun q hq => ?_⟩
  · rw [hlen]
    refine own_mod h.own hm (fun k hk hs => ?_)
    obtain ⟨ad, e, rfl⟩ := block_iff hk
    have := h.tag ad e
    rw [hs, hG] at this
    cases this
  · rw [hlen] at hq
    by_cases hqj : q = j
    · subst hqj
      simp only [List.getElem_set_self, pu_len]
      refine ⟨A0, c0, _, _, x1, hx, i1.mod hm (fun k _ hs e => ?_) (fun _ _ => rfl), i2.set i v⟩
      subst hs
      rw [hG] at e
      cases e
    · rw [List.getElem_set_ne (Ne.symm hqj)]
      obtain ⟨A1, c1, B1, d1, y1, y2, k1, k2⟩ := h.built q hq
      refine ⟨A1, c1, B1, d1, y1, y2, k1.mod hm (fun k _ hs e => ?_) (fun _ _ => rfl), k2.mod hm (fun k _ hs e => ?_) (fun _ _ => rfl)⟩
      · subst hs
        rw [hG] at e
        cases e
      · subst hs
        rw [hG] at e
        injection e with _ e
        exact hqj e.symm
/-- One more node: its lists lie in blocks with their tags, the row may have moved. -/
theorem NM.snoc {D' B' : Option Addr} {c' d' dd : Nat} {W4 : World} {o4 : Nat → Tag} (h : NM w o b D d xs ns) (x : Nd) (hg : w.grownBy W4 (Value.slice D ns.length d).ownBlock) (ho4 : ∀ k, k < w.heap.size → o4 k = o k)
    (hA : Pc w o (.slots b ns.length) A c' x.slots) (hB : Pc w o (.words b ns.length) B' d' x.words)
    (hown : W4.ownsRow 0 52 2 (.slice D' (ns.length + 1) dd) (ns.length + 1) (xs ++ [.slice A x.slots.length c', .slice B' x.words.length d'])) (ht : ∀ ad, D' = some ad → o4 ad.block = .nodes b) :
    NM W4 o4 b D' dd (xs ++ [.slice A x.slots.length c', .slice B' x.words.length d']) (ns ++ [x]) := by
  have hm : Mod (fun k => some k = (Value.slice D ns.length d).ownBlock) w W4 := Mod.of_grown hg
  have hne : ∀ t : Tag, t ≠ .nodes b → ∀ k, k < w.heap.size → some k = (Value.slice D ns.length d).ownBlock → o k ≠ t := fun t ht k _ hk e => by
    obtain ⟨ad, e1, rfl⟩ := block_iff hk.symm
    rw [h.tag ad e1] at e
    exact ht e.symm
  have hl : xs.length = ns.length * 2 := h.own.1
  have hlen : (ns ++ [x]).length = ns.length + 1 := by simp
  refine ⟨by rw [hlen]; exact hown, ht, fun j hj => ?_⟩
  rw [hlen] at hj
  by_cases hlt : j < ns.length
  · rw [List.getElem_append_left hlt]
    obtain ⟨A1, c1, B1, d1, y1, y2, k1, k2⟩ := h.built j hlt
    refine ⟨A1, c1, B1, d1, ?_, ?_, k1.mod hm (hne _ (fun h => by cases h)) ho4, k2.mod hm (hne _ (fun h => by cases h)) ho4⟩
    · rw [List.getElem?_append_left (by omega)]; exact y1
    · rw [List.getElem?_append_left (by omega)]; exact y2
  · have hje : j = ns.length := by omega
    subst hje
    rw [List.getElem_append_right (by omega)]
    simp only [Nat.sub_self, List.getElem_cons_zero]
    refine ⟨A, c', B', d', ?_, ?_, hA.mod hm (hne _ (fun h => by cases h)) ho4, hB.mod hm (hne _ (fun h => by cases h)) ho4⟩
    · rw [List.getElem?_append_right (by omega), show ns.length * 2 - xs.length = 0 by omega]; rfl
    · rw [List.getElem?_append_right (by omega), show ns.length * 2 + 1 - xs.length = 1 by omega]; rfl
theorem NM.nil (w : World) (o : Nat → Tag) (b : Bool) : NM w o b none 0 [] [] := ⟨own_nil _ _ _ _, (fun ad e => by cases e), fun j h => absurd h (by simp)⟩
end

/-! ### the heap: a pair of graphs -/
structure HMv (w : World) (o : Nat → Tag) (B hp : Nat) (A : Option Addr) (c : Nat) (D : Option Addr) (d : Nat) (xs : List Value) (A' : Option Addr) (c' : Nat) (D' : Option Addr) (d' : Nat) (xs' : List Value) (now last : Gr) : Prop where
  blk : Blk w hp 62 #[.slice A now.roots.length c, .slice D now.nodes.length d, .slice A' last.roots.length c', .slice D' last.nodes.length d']
  tag : o hp = .heap
  now : GM w o false A c D d xs now
  last : GM w o true A' c' D' d' xs' last
  lo : ∀ k, k < w.heap.size → o k ≠ .other → B ≤ k
  base : B ≤ w.heap.size
def HM (w : World) (o : Nat → Tag) (B hp : Nat) (now last : Gr) : Prop := ∃ A c D d xs A' c' D' d' xs', HMv w o B hp A c D d xs A' c' D' d' xs' now last
/-- What a method of the heap has turned: blocks of the heap; new blocks may be the heap's. -/
structure Turn (w w' : World) (o o' : Nat → Tag) : Prop where
  mod : Mod (fun k => o k ≠ .other) w w'
  ext : ∀ k, k < w.heap.size → o' k = o k
theorem Turn.refl (w : World) (o : Nat → Tag) : Turn w w o o := ⟨Mod.refl _ _, fun _ _ => rfl⟩
theorem Turn.trans {w w1 w2 : World} {o o1 o2 : Nat → Tag} (h : Turn w w1 o o1) (k : Turn w1 w2 o1 o2) : Turn w w2 o o2 :=
  ⟨Mod.trans h.mod k.mod (fun b hb e => by rw [h.ext b hb] at e; exact e), fun b hb => (k.ext b (Nat.lt_of_lt_of_le hb h.mod.size)).trans (h.ext b hb)⟩
theorem Turn.of_below {w w' : World} {o : Nat → Tag} (h : Below w.heap.size w w') : Turn w w' o o := ⟨Mod.of_below h, fun _ _ => rfl⟩
/-- Nothing of it has turned. -/
theorem HM.keep {w w' : World} {o o' : Nat → Tag} {B hp : Nat} {now last : Gr} {S : Nat → Prop} (h : HM w o B hp now last) (hm : Mod S w w') (hS : ∀ k, k < w.heap.size → S k → o k = .other) (ho : ∀ k, k < w.heap.size → o' k = o k) (hlo : ∀ k, w.heap.size ≤ k → k < w'.heap.size → o' k ≠ .other → B ≤ k) : HM w' o' B hp now last := by
  obtain ⟨A, c, D, d, xs, A', c', D', d', xs', h⟩ := h
  refine ⟨A, c, D, d, xs, A', c', D', d', xs', h.blk.mod hm (fun hs => ?_), by rw [ho _ h.blk.lt]; exact h.tag, h.now.mod hm (fun k hk hs => by rw [hS k hk hs]; exact fun h => by cases h) ho, h.last.mod hm (fun k hk hs => by rw [hS k hk hs]; exact fun h => by cases h) ho, fun k hk e => ?_, Nat.le_trans h.base hm.size⟩
  · have := hS _ h.blk.lt hs
    rw [h.tag] at this
    cases this
  · rcases Nat.lt_or_ge k w.heap.size with hlt | hge
    · rw [ho k hlt] at e; exact h.lo k hlt e
    · exact hlo k hge hk e
theorem HM.below {w w' : World} {o : Nat → Tag} {B hp : Nat} {now last : Gr} (h : HM w o B hp now last) (hb : Below w.heap.size w w') : HM w' o B hp now last := by
  have hB : B ≤ w.heap.size := by
    obtain ⟨A, c, D, d, xs, A', c', D', d', xs', h⟩ := h
    exact h.base
  exact h.keep (Mod.of_below (S := fun _ => False) hb) (fun _ _ h => h.elim) (fun _ _ => rfl) (fun k hk _ _ => Nat.le_trans hB hk)

end Go.Proofs.Yteminkohgagedaa.Mo
