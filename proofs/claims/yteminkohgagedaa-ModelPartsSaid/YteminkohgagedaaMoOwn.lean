/- One more node on a row; own: a copy of a graph in new blocks. -/
import Derived.Test.YteminkohgagedaaMoMeth
namespace Go.Proofs.Yteminkohgagedaa.Mo
open Go.RowKit Go.Proofs.Yteminkohgagedaa.Base Go.Proofs.Yteminkohgagedaa.Gr Go.Proofs.Yteminkohgagedaa.Ver
set_option linter.unusedVariables false
set_option linter.unusedSimpArgs false

def blkOf (A : Option Addr) : Option Nat := A.map Addr.block
/-- Tags of new blocks. -/
def tag3 (o : Nat → Tag) (n : Nat) (b : Bool) (j : Nat) (A B D : Option Addr) : Nat → Tag := fun k =>
  if k < n then o k else if blkOf A = some k then .slots b j else if blkOf B = some k then .words b j else if blkOf D = some k then .nodes b else .other
theorem snoc_step {wr W3 w4 : World} {o : Nat → Tag} {b : Bool} {D AC BC D4 : Option Addr} {d c d' d4 : Nat} {xs : List Value} {ns : List Nd} (x : Nd) (h : NM wr o b D d xs ns) (hb : Below wr.heap.size wr W3)
    (hA : W3.ownsRow 0 3 1 (.slice AC x.slots.length c) x.slots.length (enc ic x.slots)) (hA2 : ∀ ad, AC = some ad → wr.heap.size ≤ ad.block)
    (hB : W3.ownsRow 0 3 1 (.slice BC x.words.length d') x.words.length (enc ic x.words)) (hB2 : ∀ ad, BC = some ad → wr.heap.size ≤ ad.block)
    (hne : ∀ ad ad', AC = some ad → BC = some ad' → ad.block ≠ ad'.block) (hg : W3.grownBy w4 (Value.slice D ns.length d).ownBlock)
    (hown : w4.ownsRow 0 52 2 (.slice D4 (ns.length + 1) d4) (ns.length + 1) (xs ++ [.slice AC x.slots.length c, .slice BC x.words.length d']))
    (hat : (Value.slice D4 (ns.length + 1) d4).ownBlock = (Value.slice D ns.length d).ownBlock ∨ (Value.slice D4 (ns.length + 1) d4).ownBlock = some W3.heap.size) :
    NM w4 (tag3 o wr.heap.size b ns.length AC BC D4) b D4 d4 (xs ++ [.slice AC x.slots.length c, .slice BC x.words.length d']) (ns ++ [x]) := by
  have hext : ∀ k, k < wr.heap.size → tag3 o wr.heap.size b ns.length AC BC D4 k = o k := fun k hk => if_pos hk
  have h1 : NM W3 (tag3 o wr.heap.size b ns.length AC BC D4) b D d xs ns := h.mod (Mod.of_below (S := fun _ => False) hb) (fun _ _ h => h.elim) hext
  have hAlt : ∀ ad, AC = some ad → ad.block < W3.heap.size := fun ad e => (own_block hA ad.block (by rw [e]; rfl)).2
  have hBlt : ∀ ad, BC = some ad → ad.block < W3.heap.size := fun ad e => (own_block hB ad.block (by rw [e]; rfl)).2
  refine h1.snoc x hg (fun _ _ => rfl) ⟨hA, fun ad e => ?_⟩ ⟨hB, fun ad e => ?_⟩ hown (fun ad e => ?_)
  · have := hA2 ad e
    unfold tag3
    rw [if_neg (by omega), if_pos (by rw [e]; rfl)]
  · have := hB2 ad e
    unfold tag3
    rw [if_neg (by omega), if_neg, if_pos (by rw [e]; rfl)]
    intro e2
    unfold blkOf at e2
    cases hq : AC with
    | none => rw [hq] at e2; cases e2
    | some ad2 =>
      rw [hq] at e2
      injection e2 with e2
      exact hne ad2 ad hq e e2
  · have hk : (Value.slice D4 (ns.length + 1) d4).ownBlock = some ad.block := by rw [e]; rfl
    rcases hat with h2 | h2
    · rw [hk] at h2
      obtain ⟨ad2, e2, e3⟩ := block_iff h2.symm
      have h4 := h.lt e2
      rw [← e3, hext _ h4]
      exact h.tag ad2 e2
    · rw [hk] at h2
      injection h2 with h2
      have := hb.size
      unfold tag3
      rw [if_neg (by omega), if_neg, if_neg, if_pos (by rw [e]; rfl)]
      · intro e2
        unfold blkOf at e2
        cases hq : BC with
        | none => rw [hq] at e2; cases e2
        | some ad2 => rw [hq] at e2; injection e2 with e2; have := hBlt _ hq; omega
      · intro e2
        unfold blkOf at e2
        cases hq : AC with
        | none => rw [hq] at e2; cases e2
        | some ad2 => rw [hq] at e2; injection e2 with e2; have := hAlt _ hq; omega

/-- What own holds while it goes over the nodes. -/
structure Copy (w wr : World) (o : Nat → Tag) (b : Bool) (p2 p3 : Nat) (A : Option Addr) (c : Nat) (D : Option Addr) (d : Nat) (xs : List Value) (rs : List Int) (ns : List Nd) : Prop where
  nodes : NM wr o b D d xs ns
  roots : Pc wr o (.roots b) A c rs
  out : Blk wr p3 25 #[.slice A rs.length c, .slice D ns.length d]
  res : Blk wr p2 25 #[.slice none 0 0, .slice none 0 0]
  o3 : o p3 = .other
  o2 : o p2 = .other
  lo : ∀ k, o k ≠ .other → w.heap.size ≤ k
  below : Below w.heap.size w wr
  lo3 : w.heap.size ≤ p3
  ne : p2 ≠ p3
theorem tag3_lo {o : Nat → Tag} {n : Nat} {b : Bool} {j : Nat} {A B D : Option Addr} {k : Nat} (h : tag3 o n b j A B D k ≠ .other) : (k < n ∧ o k ≠ .other) ∨ n ≤ k := by
  unfold tag3 at h
  by_cases hk : k < n
  · rw [if_pos hk] at h; exact .inl ⟨hk, h⟩
  · exact .inr (by omega)
theorem own_round {w wr W6 w2 w3 W3 w4 : World} {o : Nat → Tag} {b : Bool} {p2 p3 k : Nat} {A D AC BC D4 : Option Addr} {c d cA cB d4 la lb : Nat} {xs : List Value} {rs : List Int} {ns : List Nd} (x : Nd) (hla : x.slots.length = la) (hlb : x.words.length = lb) (hk : ns.length = k)
    (h : Copy w wr o b p2 p3 A c D d xs rs ns) (h6 : Below wr.heap.size wr W6) (hA : w2.ownsRow W6.heap.size 3 1 (.slice AC la cA) la (enc ic x.slots)) (hA2 : Below W6.heap.size W6 w2)
    (hB : w3.ownsRow w2.heap.size 3 1 (.slice BC lb cB) lb (enc ic x.words)) (hB2 : Below w2.heap.size w2 w3) (ob : Obj) (hl : Like (w3.alloc ob) W3)
    (hg : W3.grownBy w4 (Value.slice D k d).ownBlock)
    (hown : w4.ownsRow 0 52 2 (.slice D4 (k + 1) d4) (k + 1) (xs ++ [.slice AC la cA, .slice BC lb cB]))
    (hat : (Value.slice D4 (k + 1) d4).ownBlock = (Value.slice D k d).ownBlock ∨ (Value.slice D4 (k + 1) d4).ownBlock = some W3.heap.size) :
    Copy w (w4.setCell ⟨p3, 1, none⟩ (.slice D4 (k + 1) d4)) (tag3 o wr.heap.size b k AC BC D4) b p2 p3 A c D4 d4 (xs ++ [.slice AC la cA, .slice BC lb cB]) rs (ns ++ [x]) := by
  subst hla hlb hk
  have hb3 : Below w3.heap.size w3 W3 := by
    have := below_1 w3 ob
    exact ⟨hl.os.trans this.os, hl.tape.trans this.tape, hl.output.trans this.output, by rw [hl.heap]; exact this.size, fun i hi => by rw [hl.heap]; exact this.block i hi⟩
  have hbW : Below wr.heap.size wr W3 := below_then (below_then (below_then h6 hA2) hB2) hb3
  have hA3 : W3.ownsRow W6.heap.size 3 1 (.slice AC x.slots.length cA) x.slots.length (enc ic x.slots) := own_below (own_below hA hB2) hb3
  have hB3 : W3.ownsRow w2.heap.size 3 1 (.slice BC x.words.length cB) x.words.length (enc ic x.words) := own_below hB hb3
  have hAb := fun k hk => own_block hA k hk
  have hBb := fun k hk => own_block hB k hk
  have hs6 := h6.size
  have hs2 := hA2.size
  have hn := snoc_step x h.nodes hbW (own_lower hA3 (Nat.zero_le _)) (fun ad e => by have := (hAb ad.block (by rw [e]; rfl)).1; omega) (own_lower hB3 (Nat.zero_le _)) (fun ad e => by have := (hBb ad.block (by rw [e]; rfl)).1; omega)
    (fun ad ad' e e' => by have := (hAb ad.block (by rw [e]; rfl)).2; have := (hBb ad'.block (by rw [e']; rfl)).1; omega) hg hown hat
  have hext : ∀ k, k < wr.heap.size → tag3 o wr.heap.size b ns.length AC BC D4 k = o k := fun k hk => if_pos hk
  have h3 := h.out.lt
  have h2 := h.res.lt
  have hp3 : tag3 o wr.heap.size b ns.length AC BC D4 p3 = .other := by rw [hext _ h3]; exact h.o3
  have hp2 : tag3 o wr.heap.size b ns.length AC BC D4 p2 = .other := by rw [hext _ h2]; exact h.o2
  have mg : Mod (fun k => some k = (Value.slice D ns.length d).ownBlock) wr w4 := Mod.trans (Mod.of_below (S := fun k => some k = (Value.slice D ns.length d).ownBlock) hbW) (Mod.of_grown hg) (fun _ _ h => h)
  have hDo : ∀ k, some k = (Value.slice D ns.length d).ownBlock → o k = .nodes b := fun k hk => by
    obtain ⟨ad, e, rfl⟩ := block_iff hk.symm
    exact h.nodes.tag ad e
  have ms : Mod (fun k => k = p3) w4 (w4.setCell ⟨p3, 1, none⟩ (.slice D4 (ns.length + 1) d4)) := mod_set' (S := fun k => k = p3) (Mod.refl _ _) rfl _
  have hlen : (ns ++ [x]).length = ns.length + 1 := by simp
  have hn3 : ∀ k, k = p3 → tag3 o wr.heap.size b ns.length AC BC D4 k = .other := fun k e => by rw [e]; exact hp3
  refine ⟨hn.mod ms (fun k _ e => by rw [hn3 k e]; exact fun h => by cases h) (fun _ _ => rfl), ?_, ?_, ?_, hp3, hp2, fun k hk => ?_, ?_, h.lo3, h.ne⟩
  · exact ((h.roots.mod mg (fun k _ e e2 => by rw [hDo k e] at e2; cases e2) hext).mod ms (fun k _ e e2 => by rw [hn3 k e] at e2; cases e2) (fun _ _ => rfl))
  · rw [hlen]
    have := (h.out.mod mg (fun e => by have := hDo _ e; rw [h.o3] at this; cases this)).set_ 1 (.slice D4 (ns.length + 1) d4)
    exact this
  · have := h.res.mod mg (fun e => by have := hDo _ e; rw [h.o2] at this; cases this)
    exact this.far (p := ⟨p3, 1, none⟩) h.ne _
  · rcases tag3_lo hk with h1 | h1
    · exact h.lo k h1.2
    · have := h.below.size; omega
  · refine mod_below (S := fun k => k = p3 ∨ some k = (Value.slice D ns.length d).ownBlock) h.below (Mod.trans (mg.mono (fun _ _ e => .inr e)) ms (fun _ _ e => .inl e)) h.below.size ?_
    rintro b hb (e | e)
    · have := h.lo3; omega
    · have := h.lo b (by rw [hDo b e]; exact fun h => by cases h); omega

end Go.Proofs.Yteminkohgagedaa.Mo
