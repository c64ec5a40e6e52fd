/- A row of nodes that a call builds of its own, and what may turn meanwhile. -/
import Derived.Test.YtbelbhdhcgpcpaaGreatDoorGrNum
namespace Go.Proofs.YtbelbhdhcgpcpaaGreatDoor.Gr
open Go.RowKit Go.Proofs.YtbelbhdhcgpcpaaGreatDoor.Base
set_option linter.unusedVariables false
set_option linter.unusedSimpArgs false

theorem box_zero2 (w : World) (cs : Array Value) (t : TypeId) (o : Obj) : Below w.heap.size w ((w.alloc (.cells cs t)).alloc o) := below_then (below_1 _ _) (below_1 _ _)
/-- A block from base on that is none of the hot ones. -/
structure Cold (w : World) (hot : Nat → Prop) (base k : Nat) : Prop where
  lo : base ≤ k
  lt : k < w.heap.size
  no : ¬ hot k
theorem Cold.step {w w' : World} {hot hot' : Nat → Prop} {base k : Nat} (h : Cold w hot base k) (hs : w.heap.size ≤ w'.heap.size) (hh : ∀ k, hot' k → hot k ∨ w.heap.size ≤ k) : Cold w' hot' base k :=
  ⟨h.lo, Nat.lt_of_lt_of_le h.lt hs, fun e => by
    rcases hh k e with h1 | h1
    · exact h.no h1
    · have := h.lt; omega⟩
/-- A list of numbers in a cold block. -/
def CInts (w : World) (hot : Nat → Prop) (base : Nat) (A : Option Addr) (l : List Int) : Prop := Ints w A l ∧ ∀ ad, A = some ad → 0 < l.length → Cold w hot base ad.block
theorem ints_empty (w : World) (A : Option Addr) : Ints w A [] := ⟨⟨by simp [enc], fun h => absurd h (by simp [enc])⟩, by simp⟩
theorem CInts.step {w w' : World} {hot hot' S : Nat → Prop} {base : Nat} {A : Option Addr} {l : List Int} (h : CInts w hot base A l) (hm : Mod S w w') (hS : ∀ b, b < w.heap.size → S b → hot b ∨ b < base) (hh : ∀ k, hot' k → hot k ∨ w.heap.size ≤ k) : CInts w' hot' base A l := by
  refine ⟨?_, fun ad e hl => (h.2 ad e hl).step hm.size hh⟩
  rcases Nat.eq_zero_or_pos l.length with h0 | h0
  · rw [List.eq_nil_of_length_eq_zero h0]
    exact ints_empty _ _
  · exact h.1.mod hm (fun ad e hs => by
      have hc := h.2 ad e h0
      rcases hS _ hc.lt hs with h1 | h1
      · exact hc.no h1
      · have := hc.lo; omega)
theorem CInts.of_own {w : World} {hot : Nat → Prop} {base base' : Nat} {e : TypeId} {c n : Nat} {A : Option Addr} {l : List Int} (h : w.ownsRow base' e 1 (.slice A n c) n (enc ic l)) (hn : n ≤ 17592186044416) (hb : base ≤ base') (hno : ∀ k, (Value.slice A n c).ownBlock = some k → ¬ hot k) : CInts w hot base A l :=
  ⟨Ints.of_own h hn, fun ad e _ => by
    have h1 := own_block h ad.block (by rw [e]; rfl)
    exact ⟨by omega, h1.2, hno _ (by rw [e]; rfl)⟩⟩
theorem CInts.of_old {w w' : World} {hot : Nat → Prop} {A : Option Addr} {l : List Int} (h : Ints w A l) (hb : Below w.heap.size w w') (hh : ∀ k, hot k → w.heap.size ≤ k) : CInts w' hot 0 A l :=
  ⟨h.below hb, fun ad e hl => by
    have hlt : ad.block < w.heap.size := by
      obtain ⟨ad', e', hc⟩ := h.at_ 0 hl
      rw [e] at e'
      injection e' with e'
      subst e'
      have := cell_lt hc
      rw [block_of_add] at this
      exact this
    exact ⟨Nat.zero_le _, Nat.lt_of_lt_of_le hlt hb.size, fun hk => by have := hh _ hk; omega⟩⟩
/-- A row of nodes. -/
structure NdRow (w : World) (hot : Nat → Prop) (base : Nat) (vN : Value) (xs : List Value) (ns : List Nd) : Prop where
  own : w.ownsRow base 45 2 vN ns.length xs
  built : ∀ j, (h : j < ns.length) → ∃ A c B d, xs[j * 2]? = some (.slice A ns[j].slots.length c) ∧ xs[j * 2 + 1]? = some (.slice B ns[j].words.length d) ∧ CInts w hot base A ns[j].slots ∧ CInts w hot base B ns[j].words
  hotN : ∀ k, vN.ownBlock = some k → hot k
theorem NdRow.nil (w : World) (hot : Nat → Prop) (base : Nat) : NdRow w hot base (.slice none 0 0) [] [] := ⟨own_nil _ _ _ _, fun j h => absurd h (by simp), fun k h => by simp [Value.ownBlock] at h⟩
theorem NdRow.step {w w' : World} {hot hot' S : Nat → Prop} {base : Nat} {vN : Value} {xs : List Value} {ns : List Nd} (h : NdRow w hot base vN xs ns) (hm : Mod S w w') (hS : ∀ b, b < w.heap.size → S b → (hot b ∨ b < base) ∧ vN.ownBlock ≠ some b)
    (hh : ∀ k, hot' k → hot k ∨ w.heap.size ≤ k) (hN : ∀ k, vN.ownBlock = some k → hot' k) : NdRow w' hot' base vN xs ns :=
  ⟨own_mod h.own hm (fun k hk hs => (hS k (own_block h.own k hk).2 hs).2 hk), fun j hj => by
    obtain ⟨A, c, B, d, x1, x2, i1, i2⟩ := h.built j hj
    exact ⟨A, c, B, d, x1, x2, i1.step hm (fun b hb hs => (hS b hb hs).1) hh, i2.step hm (fun b hb hs => (hS b hb hs).1) hh⟩, hN⟩
theorem NdRow.snoc {w w4 : World} {hot hot' : Nat → Prop} {base : Nat} {vN v4 : Value} {xs : List Value} {ns : List Nd} (h : NdRow w hot base vN xs ns) (x : Nd) {A B : Option Addr} {c d : Nat} (hA : CInts w hot base A x.slots) (hB : CInts w hot base B x.words)
    (hg : w.grownBy w4 vN.ownBlock) (ho : w4.ownsRow base 45 2 v4 (ns.length + 1) (xs ++ [.slice A x.slots.length c, .slice B x.words.length d])) (hh : ∀ k, hot' k → hot k ∨ w.heap.size ≤ k) (hN : ∀ k, v4.ownBlock = some k → hot' k) :
    NdRow w4 hot' base v4 (xs ++ [.slice A x.slots.length c, .slice B x.words.length d]) (ns ++ [x]) := by
  have hS : ∀ b, b < w.heap.size → some b = vN.ownBlock → hot b ∨ b < base := fun b _ e => .inl (h.hotN b e.symm)
  have hl : xs.length = ns.length * 2 := h.own.1
  refine ⟨by rw [List.length_append]; exact ho, fun j hj => ?_, hN⟩
  rw [List.length_append] at hj
  simp only [List.length_cons, List.length_nil] at hj
  by_cases hlt : j < ns.length
  · rw [List.getElem_append_left hlt]
    obtain ⟨A', c', B', d', x1, x2, i1, i2⟩ := h.built j hlt
    refine ⟨A', c', B', d', ?_, ?_, i1.step (Mod.of_grown hg) hS hh, i2.step (Mod.of_grown hg) hS hh⟩
    · rw [List.getElem?_append_left (by omega)]; exact x1
    · rw [List.getElem?_append_left (by omega)]; exact x2
  · have hje : j = ns.length := by omega
    subst hje
    rw [List.getElem_append_right (by omega)]
    simp only [Nat.sub_self, List.getElem_cons_zero]
    refine ⟨A, c, B, d, ?_, ?_, hA.step (Mod.of_grown hg) hS hh, hB.step (Mod.of_grown hg) hS hh⟩
    · rw [List.getElem?_append_right (by omega), show ns.length * 2 - xs.length = 0 by omega]; rfl
    · rw [List.getElem?_append_right (by omega), show ns.length * 2 + 1 - xs.length = 1 by omega]; rfl
theorem NdRow.nodes {w w' : World} {hot S : Nat → Prop} {base : Nat} {A : Option Addr} {n c : Nat} {xs : List Value} {ns : List Nd} (h : NdRow w hot base (.slice A n c) xs ns) (hm : Mod S w w') (hS : ∀ b, b < w.heap.size → S b → (hot b ∨ b < base) ∧ (Value.slice A n c).ownBlock ≠ some b) (hl : ns.length ≤ 17592186044416) : Nodes w' A ns := by
  obtain ⟨A', c', e, _⟩ := own_form h.own
  injection e with e1 e2 e3
  subst e1 e2
  refine ⟨hl, fun i hi => ?_⟩
  obtain ⟨A', c', B', d', x1, x2, i1, i2⟩ := h.built i hi
  have hr := Reads.of_own h.own
  obtain ⟨ad, rfl, hc⟩ := hr.2 (by rw [hr.1]; omega)
  have hcell : ∀ j u, xs[j]? = some u → w'.cell? (ad.add j) = some u := fun j u hu => by
    have h1 := hc j u hu
    rw [World.cell?_of_block (hm.block _ (cell_lt h1) (fun hs => by
      refine (hS _ (cell_lt h1) hs).2 ?_
      rw [block_of_add]
      rfl))]
    exact h1
  have hh : ∀ k, hot k → hot k ∨ w.heap.size ≤ k := fun k h => .inl h
  refine ⟨ad, rfl, A', c', B', d', hcell _ _ x1, ?_, (i1.step hm (fun b hb hs => (hS b hb hs).1) hh).1, (i2.step hm (fun b hb hs => (hS b hb hs).1) hh).1⟩
  have h2 := hcell _ _ x2
  rw [← add_of_add] at h2
  exact h2
/-- A graph out of such a row. -/
theorem NdRow.firm {w : World} {hot : Nat → Prop} {base B : Nat} {A R : Option Addr} {n c cr : Nat} {xs : List Value} {ns : List Nd} {rs : List Int} (h : NdRow w hot base (.slice A n c) xs ns) (hR : CInts w hot base R rs) (hB : B ≤ base) (hl : ns.length ≤ 17592186044416) :
    Firm B w (.agg #[.slice R rs.length cr, .slice A ns.length c]) ⟨rs, ns⟩ := fun S w' hm hs => by
  have hS : ∀ b, b < w.heap.size → S b → (hot b ∨ b < base) ∧ (Value.slice A n c).ownBlock ≠ some b := fun b _ hb => ⟨.inr (by have := hs b hb; omega), fun e => by have := (own_block h.own b e).1; have := hs b hb; omega⟩
  exact ⟨R, cr, A, c, rfl, (hR.step hm (fun b hb h => (hS b hb h).1) (fun k h => .inl h)).1, h.nodes hm hS hl⟩

theorem grow_keep {w W' w4 : World} {Y : Nat} {t : TypeId} {cs : Array Value} (h : Blk w Y t cs) (ob : Obj) (hl : Like (w.alloc ob) W') {row : Option Nat} (hg : W'.grownBy w4 row) (hn : row ≠ some Y) : Blk w4 Y t cs :=
  Base.Blk.mod (Blk.like (h.alloc ob) hl) (Mod.of_grown hg) (fun e => hn e.symm)
theorem grow_mod {S : Nat → Prop} {w0 w W' w4 : World} (hm : Mod S w0 w) (ob : Obj) (hl : Like (w.alloc ob) W') {row : Option Nat} (hg : W'.grownBy w4 row) (hr : ∀ b, row = some b → b < w0.heap.size → S b) : Mod S w0 w4 :=
  Mod.trans (Mod.like (Mod.trans hm (Mod.of_below (S := fun _ => False) (below_1 w ob)) (fun _ _ h => h.elim)) hl) (Mod.of_grown hg) (fun b hb h => hr b h.symm hb)
theorem own_ahead {w W' : World} {base e size n : Nat} {v : Value} {xs : List Value} (h : w.ownsRow base e size v n xs) (ob : Obj) (hl : Like (w.alloc ob) W') : W'.ownsRow base e size v n xs := own_like (own_below h (below_1 _ _)) hl

/-- One more node, and the row is stored into its variable. -/
theorem row_round {w W' w4 : World} {base X k : Nat} {vN v4 : Value} {xs : List Value} {ns : List Nd} (h : NdRow w (fun b => b = X ∨ vN.ownBlock = some b) base vN xs ns) (x : Nd) {A B : Option Addr} {c d la lb : Nat} (hla : x.slots.length = la) (hlb : x.words.length = lb)
    (hA : CInts w (fun b => b = X ∨ vN.ownBlock = some b) base A x.slots) (hB : CInts w (fun b => b = X ∨ vN.ownBlock = some b) base B x.words) (hk : ns.length = k) (hX : X < w.heap.size) (hNX : vN.ownBlock ≠ some X)
    (ob : Obj) (hl : Like (w.alloc ob) W') (hg : W'.grownBy w4 vN.ownBlock) (ho : w4.ownsRow base 45 2 v4 (k + 1) (xs ++ [.slice A la c, .slice B lb d]))
    (hat : v4.ownBlock = vN.ownBlock ∨ v4.ownBlock = some W'.heap.size) (off : Nat) :
    NdRow (w4.setCell ⟨X, off, none⟩ v4) (fun b => b = X ∨ v4.ownBlock = some b) base v4 (xs ++ [.slice A la c, .slice B lb d]) (ns ++ [x]) ∧
    Mod (fun b => b = X ∨ vN.ownBlock = some b) w (w4.setCell ⟨X, off, none⟩ v4) := by
  subst hk hla hlb
  have z1 : W'.heap.size = w.heap.size + 1 := by rw [hl.heap]; simp
  have m1 : Mod (fun _ => False) w W' := Mod.like (Mod.of_below (below_1 w ob)) hl
  have h1 : NdRow W' (fun b => b = X ∨ vN.ownBlock = some b) base vN xs ns := h.step m1 (fun _ _ h => h.elim) (fun k h => .inl h) h.hotN
  have hA1 : CInts W' (fun b => b = X ∨ vN.ownBlock = some b) base A x.slots := hA.step m1 (fun _ _ h => h.elim) (fun k h => .inl h)
  have hB1 : CInts W' (fun b => b = X ∨ vN.ownBlock = some b) base B x.words := hB.step m1 (fun _ _ h => h.elim) (fun k h => .inl h)
  have hv : v4.ownBlock ≠ some X := by
    rcases hat with e | e
    · rw [e]; exact hNX
    · rw [e]; intro e; injection e with e; omega
  have h2 : NdRow w4 (fun b => b = X ∨ v4.ownBlock = some b) base v4 (xs ++ [.slice A x.slots.length c, .slice B x.words.length d]) (ns ++ [x]) := by
    refine h1.snoc x hA1 hB1 hg ho ?_ (fun k h => .inr h)
    rintro b (e | e)
    · exact .inl (.inl e)
    · rcases hat with e' | e'
      · rw [e'] at e; exact .inl (.inr e)
      · rw [e'] at e; injection e with e; exact .inr (by omega)
  have m2 : Mod (fun b => b = X) w4 (w4.setCell ⟨X, off, none⟩ v4) := mod_set' (S := fun b => b = X) (Mod.refl _ _) rfl _
  refine ⟨h2.step m2 ?_ (fun k h => .inl h) (fun k h => .inr h), Mod.trans (Mod.trans (m1.mono (fun _ _ h => h.elim)) (Mod.of_grown hg) (fun b _ e => .inr e.symm)) m2 (fun b _ e => .inl e)⟩
  rintro b _ rfl
  exact ⟨.inl (.inl rfl), hv⟩

end Go.Proofs.YtbelbhdhcgpcpaaGreatDoor.Gr
