/- flittingref16.Canon: what it holds. -/
import Derived.Test.YtbelbhdhcgpcpaaGreatDoorGrRows
import Derived.Test.YtbelbhdhcgpcpaaGreatDoorGrNumber
import Derived.IntWalk
import Derived.Deep.RegionLaw
namespace Go.Proofs.YtbelbhdhcgpcpaaGreatDoor.Gr
open Go.RowKit Go.Proofs.YtbelbhdhcgpcpaaGreatDoor.Base
set_option linter.unusedVariables false
set_option linter.unusedSimpArgs false

/-- The numbered form from the roots and from more. -/
def canonM (g : Gr) (more : List Int) : Gr := ⟨(meet [] g.roots).2, canonGo g (g.nodes.length + 1) 0 (meet [] (g.roots ++ more)).1 []⟩
theorem canonM_nil (g : Gr) : canonM g [] = number g := by
  unfold canonM
  rw [List.append_nil]
  rfl
theorem place_meet {o : List Int} {n : Nat} (ho : Ord o n) (a : Int) : placeOf (meet1 o a).1 a = (meet1 o a).2 := by
  by_cases h0 : a = 0
  · subst h0
    rw [meet1_zero]
    exact placeOf_zero.2 (fun h => by have := ho.2 0 h; omega)
  · by_cases hm : a ∈ o
    · rw [meet1_old h0 hm]
    · rw [meet1_new h0 hm]
      show placeOf (o ++ [a]) a = _
      rw [placeOf_snoc hm, if_pos rfl]

structure MetV (w : World) (base np n : Nat) (vO : Value) (o : List Int) : Prop where
  plc : Blk w np 3 (places o n)
  own : w.ownsRow base 3 1 vO o.length (enc ic o)
  apart : vO.ownBlock ≠ some np
section
variable {w w' W' w4 wr w0 : World} {base np op n : Nat} {vO vR vN v4 : Value} {o o' rs : List Int} {S : Nat → Prop}
theorem MetV.mod (h : MetV w base np n vO o) (hm : Mod S w w') (h1 : ¬ S np) (h2 : ∀ k, vO.ownBlock = some k → ¬ S k) : MetV w' base np n vO o := ⟨h.plc.mod hm h1, own_mod h.own hm h2, h.apart⟩
theorem MetV.below (h : MetV w base np n vO o) (hb : Below w.heap.size w w') : MetV w' base np n vO o := h.mod (Mod.of_below (S := fun _ => False) hb) (fun h => h) (fun _ _ h => h)
theorem MetV.at_ (h : MetV w base np n vO o) (a : Int) (h0 : 0 ≤ a) (h1 : a ≤ n) : w.cell? ⟨np, a.toNat, none⟩ = some (.int .i64 (placeOf o a)) := by rw [h.plc.cell, places_get o n a h0 h1]
theorem MetV.add (h : MetV w base np n vO o) {a : Int} (h0 : 0 ≤ a) (h1 : a ≤ n) (hm : a ∉ o) (ob : Obj) (hl : Like (w.alloc ob) W') (hg : W'.grownBy w4 vO.ownBlock) (ho : w4.ownsRow base 3 1 v4 (o.length + 1) (enc ic o ++ [.int .i64 a])) (hat : v4.ownBlock = vO.ownBlock ∨ v4.ownBlock = some W'.heap.size) :
    MetV (w4.setCell ⟨np, a.toNat, none⟩ (.int .i64 ((o.length : Int) + 1))) base np n v4 (o ++ [a]) ∧ Mod (fun b => b = np ∨ vO.ownBlock = some b) w (w4.setCell ⟨np, a.toNat, none⟩ (.int .i64 ((o.length : Int) + 1))) := by
  have z1 : W'.heap.size = w.heap.size + 1 := by rw [hl.heap]; simp
  have zp := h.plc.lt
  have hv : v4.ownBlock ≠ some np := by
    rcases hat with e | e
    · rw [e]; exact h.apart
    · rw [e]; intro e; injection e with e; omega
  refine ⟨⟨?_, ?_, hv⟩, mod_set' (grow_mod (S := fun b => b = np ∨ vO.ownBlock = some b) (Mod.refl _ w) ob hl hg (fun b e _ => .inr e)) (.inl rfl) _⟩
  · have := (grow_keep h.plc ob hl hg h.apart).set_ a.toNat (.int .i64 ((o.length : Int) + 1))
    rwa [places_set o n a h0 h1 hm] at this
  · rw [enc_append, List.length_append]
    exact own_far ho hv _

/-- While the roots, and more, are gone over. -/
structure RA (w0 wr : World) (base np op n : Nat) (vO vR : Value) (o rs : List Int) : Prop where
  met : MetV wr base np n vO o
  out : Blk wr op 25 #[vR, .slice none 0 0]
  row : wr.ownsRow base 3 1 vR rs.length (enc ic rs)
  rnp : vR.ownBlock ≠ some np
  ap : ∀ k, vO.ownBlock = some k → vR.ownBlock ≠ some k
  below : Below base w0 wr
  hnp : base ≤ np
  hop : base ≤ op
theorem RA.place (h : RA w0 wr base np op n vO vR o rs) (hm : MetV w' base np n v4 o') (hM : Mod (fun b => b = np ∨ vO.ownBlock = some b) wr w') (hat : v4.ownBlock = vO.ownBlock ∨ ∃ k, v4.ownBlock = some k ∧ wr.heap.size ≤ k) : RA w0 w' base np op n v4 vR o' rs := by
  have hne : op ≠ np := Base.Blk.ne_ h.out h.met.plc (by decide)
  have hno := own_blk_ne h.met.own h.out (by decide)
  have hlt := h.out.lt
  have hop := h.hop
  refine ⟨hm, h.out.mod hM (by rintro (e | e); exact hne e; exact hno e), own_mod h.row hM ?_, h.rnp, ?_, mod_below h.below hM (by omega) ?_, h.hnp, h.hop⟩
  · rintro k hk (e | e)
    · subst e; exact h.rnp hk
    · exact h.ap k e hk
  · intro k hk hr
    rcases hat with e | ⟨j, e, hj⟩
    · rw [e] at hk; exact h.ap k hk hr
    · rw [e] at hk; injection hk with hk; have := (own_block h.row k hr).2; omega
  · rintro b hb (e | e)
    · have := h.hnp; omega
    · have := (own_block h.met.own b e).1; omega
theorem RA.root (h : RA w0 wr base np op n vO vR o rs) (x : Int) (hM : Mod (fun b => b = op ∨ vR.ownBlock = some b) wr w') (hout : Blk w' op 25 #[v4, .slice none 0 0]) (hrow : w'.ownsRow base 3 1 v4 (rs ++ [x]).length (enc ic (rs ++ [x]))) (hat : v4.ownBlock = vR.ownBlock ∨ ∃ k, v4.ownBlock = some k ∧ wr.heap.size ≤ k) : RA w0 w' base np op n vO v4 o (rs ++ [x]) := by
  have hne : np ≠ op := Base.Blk.ne_ h.met.plc h.out (by decide)
  have hno := own_blk_ne h.met.own h.out (by decide)
  have hlt := h.out.lt
  have hlt2 := h.met.plc.lt
  have hop := h.hop
  refine ⟨h.met.mod hM (by rintro (e | e); exact hne e; exact h.rnp e) ?_, hout, hrow, ?_, ?_, mod_below h.below hM (by omega) ?_, h.hnp, h.hop⟩
  · rintro k hk (e | e)
    · subst e; exact hno hk
    · exact h.ap k hk e
  · rcases hat with e | ⟨j, e, hj⟩
    · rw [e]; exact h.rnp
    · rw [e]; intro e; injection e with e; omega
  · intro k hk hr
    rcases hat with e | ⟨j, e, hj⟩
    · rw [e] at hr; exact h.ap k hk hr
    · rw [e] at hr; injection hr with hr; have := (own_block h.met.own k hk).2; omega
  · rintro b hb (e | e)
    · have := h.hop; omega
    · have := (own_block h.row b e).1; omega

/-- Blocks that may turn while the order is gone over. -/
def HotB (np op : Nat) (vO vN : Value) (b : Nat) : Prop := b = np ∨ b = op ∨ vO.ownBlock = some b ∨ vN.ownBlock = some b
structure RB (w0 wr : World) (base np op n : Nat) (vO vN : Value) (o rs : List Int) (AR : Option Addr) (cR : Nat) (ns : List Nd) (xs : List Value) : Prop where
  met : MetV wr base np n vO o
  out : Blk wr op 25 #[.slice AR rs.length cR, vN]
  roots : CInts wr (HotB np op vO vN) base AR rs
  row : NdRow wr (HotB np op vO vN) base vN xs ns
  below : Below base w0 wr
  hnp : base ≤ np
  hop : base ≤ op
theorem RB.turn {AR : Option Addr} {cR : Nat} {ns : List Nd} {xs : List Value} (h : RB w0 wr base np op n vO vN o rs AR cR ns xs) (hm : MetV w' base np n v4 o') (hM : Mod (fun b => b = np ∨ vO.ownBlock = some b) wr w') (hat : v4.ownBlock = vO.ownBlock ∨ ∃ k, v4.ownBlock = some k ∧ wr.heap.size ≤ k) : RB w0 w' base np op n v4 vN o' rs AR cR ns xs := by
  have hne : op ≠ np := Base.Blk.ne_ h.out h.met.plc (by decide)
  have hno := own_blk_ne h.met.own h.out (by decide)
  have hlt := h.out.lt
  have hop := h.hop
  have hh : ∀ k, HotB np op v4 vN k → HotB np op vO vN k ∨ wr.heap.size ≤ k := by
    rintro k (e | e | e | e)
    · exact .inl (.inl e)
    · exact .inl (.inr (.inl e))
    · rcases hat with e' | ⟨j, e', hj⟩
      · rw [e'] at e; exact .inl (.inr (.inr (.inl e)))
      · rw [e'] at e; injection e with e; exact .inr (by omega)
    · exact .inl (.inr (.inr (.inr e)))
  have hS : ∀ b, b < wr.heap.size → (b = np ∨ vO.ownBlock = some b) → HotB np op vO vN b ∨ b < base := by
    rintro b _ (e | e)
    · exact .inl (.inl e)
    · exact .inl (.inr (.inr (.inl e)))
  refine ⟨hm, h.out.mod hM (by rintro (e | e); exact hne e; exact hno e), h.roots.step hM hS hh, h.row.step hM (fun b hb hs => ⟨hS b hb hs, ?_⟩) hh (fun k e => .inr (.inr (.inr e))), mod_below h.below hM (by omega) ?_, h.hnp, h.hop⟩
  · rcases hs with e | e
    · rw [e]; exact own_blk_ne h.row.own h.met.plc (by decide)
    · intro e'; exact own_own_ne h.met.own h.row.own (by decide) b e e'
  · rintro b hb (e | e)
    · have := h.hnp; omega
    · have := (own_block h.met.own b e).1; omega
theorem RB.snoc {AR A B : Option Addr} {cR c d la lb k : Nat} {ns : List Nd} {xs : List Value} (h : RB w0 wr base np op n vO vN o rs AR cR ns xs) (x : Nd) (hla : x.slots.length = la) (hlb : x.words.length = lb) (hk : ns.length = k) (hA : CInts wr (HotB np op vO vN) base A x.slots) (hB : CInts wr (HotB np op vO vN) base B x.words)
    (ob : Obj) (hl : Like (wr.alloc ob) W') (hg : W'.grownBy w4 vN.ownBlock) (ho : w4.ownsRow base 45 2 v4 (k + 1) (xs ++ [.slice A la c, .slice B lb d])) (hat : v4.ownBlock = vN.ownBlock ∨ v4.ownBlock = some W'.heap.size) :
    RB w0 (w4.setCell ⟨op, 1, none⟩ v4) base np op n vO v4 o rs AR cR (ns ++ [x]) (xs ++ [.slice A la c, .slice B lb d]) := by
  subst hla hlb hk
  have z1 : W'.heap.size = wr.heap.size + 1 := by rw [hl.heap]; simp
  have m1 : Mod (fun _ => False) wr W' := Mod.like (Mod.of_below (below_1 wr ob)) hl
  have hlt := h.out.lt
  have hop := h.hop
  have hne : np ≠ op := Base.Blk.ne_ h.met.plc h.out (by decide)
  have hno := own_blk_ne h.met.own h.out (by decide)
  have hNp := own_blk_ne h.row.own h.met.plc (by decide)
  have hNo := own_blk_ne h.row.own h.out (by decide)
  have h1 := h.row.step m1 (fun _ _ h => h.elim) (fun k h => .inl h) h.row.hotN
  have hA1 := hA.step m1 (fun _ _ h => h.elim) (fun k h => .inl h)
  have hB1 := hB.step m1 (fun _ _ h => h.elim) (fun k h => .inl h)
  have hR1 := h.roots.step m1 (fun _ _ h => h.elim) (fun k h => .inl h)
  have hv : v4.ownBlock ≠ some op := by
    rcases hat with e | e
    · rw [e]; exact hNo
    · rw [e]; intro e; injection e with e; omega
  have hh : ∀ k, HotB np op vO v4 k → HotB np op vO vN k ∨ W'.heap.size ≤ k := by
    rintro b (e | e | e | e)
    · exact .inl (.inl e)
    · exact .inl (.inr (.inl e))
    · exact .inl (.inr (.inr (.inl e)))
    · rcases hat with e' | e'
      · rw [e'] at e; exact .inl (.inr (.inr (.inr e)))
      · rw [e'] at e; injection e with e; exact .inr (by omega)
  have h2 : NdRow w4 (HotB np op vO v4) base v4 (xs ++ [.slice A x.slots.length c, .slice B x.words.length d]) (ns ++ [x]) :=
    h1.snoc x hA1 hB1 hg ho hh (fun k h => .inr (.inr (.inr h)))
  have hR2 : CInts w4 (HotB np op vO v4) base AR rs := hR1.step (Mod.of_grown hg) (fun b _ e => .inl (.inr (.inr (.inr e.symm)))) hh
  have m2 : Mod (fun b => b = op) w4 (w4.setCell ⟨op, 1, none⟩ v4) := mod_set' (S := fun b => b = op) (Mod.refl _ _) rfl _
  have m3 : Mod (fun b => b = op ∨ vN.ownBlock = some b) wr (w4.setCell ⟨op, 1, none⟩ v4) :=
    Mod.trans (Mod.trans (m1.mono (fun _ _ h => h.elim)) (Mod.of_grown hg) (fun b _ e => .inr e.symm)) m2 (fun b _ e => .inl e)
  refine ⟨h.met.mod m3 (by rintro (e | e); exact hne e; exact hNp e) ?_, ?_, hR2.step m2 (fun b _ e => .inl (.inr (.inl e))) (fun k h => .inl h), h2.step m2 ?_ (fun k h => .inl h) (fun k h => .inr (.inr (.inr h))), mod_below h.below m3 (by omega) ?_, h.hnp, h.hop⟩
  · rintro k hk (e | e)
    · subst e; exact hno hk
    · exact own_own_ne h.met.own h.row.own (by decide) k hk e
  · exact (grow_keep h.out ob hl hg hNo).set_ 1 v4
  · rintro b _ rfl
    exact ⟨.inl (.inr (.inl rfl)), hv⟩
  · rintro b hb (e | e)
    · omega
    · have := (own_block h.row.own b e).1; omega
end

end Go.Proofs.YtbelbhdhcgpcpaaGreatDoor.Gr
