/- flittingref16.Canon: what it holds while it goes over one node's slots. -/
import Derived.Test.YtbelbhdhcgpcpaaGreatDoorGrRefCanon
namespace Go.Proofs.YtbelbhdhcgpcpaaGreatDoor.Gr
open Go.RowKit Go.Proofs.YtbelbhdhcgpcpaaGreatDoor.Base
set_option linter.unusedVariables false
set_option linter.unusedSimpArgs false

def HotI (np op b1 : Nat) (vO vN : Value) (b : Nat) : Prop := HotB np op vO vN b ∨ b1 ≤ b
structure RI (w0 wr : World) (base np op n b1 : Nat) (vO vN : Value) (o rs : List Int) (AR : Option Addr) (cR : Nat) (ns : List Nd) (xs : List Value) : Prop where
  met : MetV wr base np n vO o
  out : Blk wr op 25 #[.slice AR rs.length cR, vN]
  roots : CInts wr (HotI np op b1 vO vN) base AR rs
  row : NdRow wr (HotI np op b1 vO vN) base vN xs ns
  below : Below base w0 wr
  hnp : base ≤ np
  hop : base ≤ op
  lnp : np < b1
  lop : op < b1
  lN : ∀ k, vN.ownBlock = some k → k < b1
  lb : b1 ≤ wr.heap.size
section
variable {w w' wr w0 : World} {base np op n b1 : Nat} {vO vN v4 : Value} {o o' rs : List Int} {S : Nat → Prop} {AR : Option Addr} {cR : Nat} {ns : List Nd} {xs : List Value}
theorem RI.start (h : RB w0 wr base np op n vO vN o rs AR cR ns xs) (hb : Below wr.heap.size wr w') : RI w0 w' base np op n wr.heap.size vO vN o rs AR cR ns xs := by
  have M : Mod (fun _ => False) wr w' := Mod.of_below hb
  have hh : ∀ k, HotI np op wr.heap.size vO vN k → HotB np op vO vN k ∨ wr.heap.size ≤ k := fun k h => h
  have hop := h.hop
  have hlt := h.out.lt
  exact ⟨h.met.below hb, h.out.below hb h.out.lt, h.roots.step M (fun _ _ h => h.elim) hh, h.row.step M (fun _ _ h => h.elim) hh (fun k e => .inl (.inr (.inr (.inr e)))), mod_below h.below M (by omega) (fun _ _ h => h), h.hnp, h.hop, h.met.plc.lt, h.out.lt, fun k e => (own_block h.row.own k e).2, hb.size⟩
/-- What is new since is written. -/
theorem RI.step (h : RI w0 wr base np op n b1 vO vN o rs AR cR ns xs) (hM : Mod S wr w') (hS : ∀ b, b < wr.heap.size → S b → b1 ≤ b) (hO : ∀ k, vO.ownBlock = some k → ¬ S k) : RI w0 w' base np op n b1 vO vN o rs AR cR ns xs := by
  have hlt := h.met.plc.lt
  have hlo := h.out.lt
  have l1 := h.lnp
  have l2 := h.lop
  have l3 := h.lb
  have hop := h.hop
  refine ⟨h.met.mod hM (fun e => by have := hS np hlt e; omega) hO, h.out.mod hM (fun e => by have := hS op hlo e; omega), h.roots.step hM (fun b hb e => .inl (.inr (hS b hb e))) (fun k e => .inl e),
    h.row.step hM (fun b hb e => ⟨.inl (.inr (hS b hb e)), fun e' => by have := h.lN b e'; have := hS b hb e; omega⟩) (fun k e => .inl e) (fun k e => .inl (.inr (.inr (.inr e)))), mod_below h.below hM (by omega) (fun b hb e => by have := hS b (by omega) e; omega), h.hnp, h.hop, h.lnp, h.lop, h.lN, Nat.le_trans l3 hM.size⟩
/-- A node is met. -/
theorem RI.place (h : RI w0 wr base np op n b1 vO vN o rs AR cR ns xs) (hm : MetV w' base np n v4 o') (hM : Mod (fun b => b = np ∨ vO.ownBlock = some b) wr w') (hat : v4.ownBlock = vO.ownBlock ∨ ∃ k, v4.ownBlock = some k ∧ wr.heap.size ≤ k) : RI w0 w' base np op n b1 v4 vN o' rs AR cR ns xs := by
  have hne : op ≠ np := Base.Blk.ne_ h.out h.met.plc (by decide)
  have hno := own_blk_ne h.met.own h.out (by decide)
  have hlt := h.out.lt
  have hop := h.hop
  have hh : ∀ k, HotI np op b1 v4 vN k → HotI np op b1 vO vN k ∨ wr.heap.size ≤ k := by
    rintro k ((e | e | e | e) | e)
    · exact .inl (.inl (.inl e))
    · exact .inl (.inl (.inr (.inl e)))
    · rcases hat with e' | ⟨j, e', hj⟩
      · rw [e'] at e; exact .inl (.inl (.inr (.inr (.inl e))))
      · rw [e'] at e; injection e with e; exact .inr (by omega)
    · exact .inl (.inl (.inr (.inr (.inr e))))
    · exact .inl (.inr e)
  have hS : ∀ b, b < wr.heap.size → (b = np ∨ vO.ownBlock = some b) → HotI np op b1 vO vN b ∨ b < base := by
    rintro b _ (e | e)
    · exact .inl (.inl (.inl e))
    · exact .inl (.inl (.inr (.inr (.inl e))))
  refine ⟨hm, h.out.mod hM (by rintro (e | e); exact hne e; exact hno e), h.roots.step hM hS hh, h.row.step hM (fun b hb hs => ⟨hS b hb hs, ?_⟩) hh (fun k e => .inl (.inr (.inr (.inr e)))), mod_below h.below hM (by omega) ?_, h.hnp, h.hop, h.lnp, h.lop, h.lN, Nat.le_trans h.lb hM.size⟩
  · rcases hs with e | e
    · rw [e]; exact own_blk_ne h.row.own h.met.plc (by decide)
    · intro e'; exact own_own_ne h.met.own h.row.own (by decide) b e e'
  · rintro b hb (e | e)
    · have := h.hnp; omega
    · have := (own_block h.met.own b e).1; omega
/-- The node is done. -/
theorem RI.done (h : RI w0 wr base np op n b1 vO vN o rs AR cR ns xs) : RB w0 wr base np op n vO vN o rs AR cR ns xs := by
  have M : Mod (fun _ => False) wr wr := Mod.refl _ _
  have hh : ∀ k, HotB np op vO vN k → HotI np op b1 vO vN k ∨ wr.heap.size ≤ k := fun k h => .inl (.inl h)
  exact ⟨h.met, h.out, h.roots.step M (fun _ _ h => h.elim) hh, h.row.step M (fun _ _ h => h.elim) hh (fun k e => .inr (.inr (.inr e))), h.below, h.hnp, h.hop⟩
end

/-- The slots of the node that is made: vS lies in the first cell of block b2, and nowhere else. -/
structure RS (wr : World) (b1 b2 : Nat) (vO vN vS : Value) (c1 : Array Value) (ss : List Int) : Prop where
  x1 : Blk wr b1 45 c1
  x2 : Blk wr b2 45 #[vS, .slice none 0 0]
  row : wr.ownsRow b2 3 1 vS ss.length (enc ic ss)
  ap : ∀ k, vO.ownBlock = some k → vS.ownBlock ≠ some k
  l1 : b1 < b2
section
variable {w w' wr w0 W' w4 : World} {base np op n b1 b2 : Nat} {vO vN vS v4 : Value} {o o' rs ss : List Int} {S : Nat → Prop} {AR : Option Addr} {cR : Nat} {ns : List Nd} {xs : List Value} {c1 : Array Value}
theorem RS.place (h : RS wr b1 b2 vO vN vS c1 ss) (hi : RI w0 wr base np op n b1 vO vN o rs AR cR ns xs) (hM : Mod (fun b => b = np ∨ vO.ownBlock = some b) wr w') (hat : v4.ownBlock = vO.ownBlock ∨ ∃ k, v4.ownBlock = some k ∧ wr.heap.size ≤ k) : RS w' b1 b2 v4 vN vS c1 ss := by
  have n1 : b1 ≠ np := Base.Blk.ne_ h.x1 hi.met.plc (by decide)
  have n2 : b2 ≠ np := Base.Blk.ne_ h.x2 hi.met.plc (by decide)
  have n3 := own_blk_ne hi.met.own h.x1 (by decide)
  have n4 := own_blk_ne hi.met.own h.x2 (by decide)
  refine ⟨h.x1.mod hM (by rintro (e | e); exact n1 e; exact n3 e), h.x2.mod hM (by rintro (e | e); exact n2 e; exact n4 e), own_mod h.row hM ?_, ?_, h.l1⟩
  · rintro k hk (e | e)
    · have := (own_block h.row k hk).1; have := hi.lnp; have := h.l1; omega
    · exact h.ap k e hk
  · intro k hk hs
    rcases hat with e | ⟨j, e, hj⟩
    · rw [e] at hk; exact h.ap k hk hs
    · rw [e] at hk; injection hk with hk; have := (own_block h.row k hs).2; omega
/-- One slot more. -/
theorem RS.more {k : Nat} {x : Int} (h : RS wr b1 b2 vO vN vS c1 ss) (hi : RI w0 wr base np op n b1 vO vN o rs AR cR ns xs) (hk : ss.length = k) (ob : Obj) (hl : Like (wr.alloc ob) W') (hg : W'.grownBy w4 vS.ownBlock)
    (ho : w4.ownsRow b2 3 1 v4 (k + 1) (enc ic ss ++ [.int .i64 x])) (hat : v4.ownBlock = vS.ownBlock ∨ v4.ownBlock = some W'.heap.size) :
    RS (w4.setCell ⟨b2, 0, none⟩ v4) b1 b2 vO vN v4 c1 (ss ++ [x]) ∧ RI w0 (w4.setCell ⟨b2, 0, none⟩ v4) base np op n b1 vO vN o rs AR cR ns xs := by
  have z1 : W'.heap.size = wr.heap.size + 1 := by rw [hl.heap]; simp
  have zo := h.x2.lt
  have hRo := own_blk_ne h.row h.x2 (by decide)
  have hR1 := own_blk_ne h.row h.x1 (by decide)
  have hl1 := h.l1
  have hv : v4.ownBlock ≠ some b2 := by
    rcases hat with e | e
    · rw [e]; exact hRo
    · rw [e]; intro e; injection e with e; omega
  have hM : Mod (fun b => b = b2 ∨ vS.ownBlock = some b) wr (w4.setCell ⟨b2, 0, none⟩ v4) := mod_set' (grow_mod (S := fun b => b = b2 ∨ vS.ownBlock = some b) (Mod.refl _ wr) ob hl hg (fun b e _ => .inr e)) (.inl rfl) _
  refine ⟨⟨h.x1.mod hM (by rintro (e | e); omega; exact hR1 e), (grow_keep h.x2 ob hl hg hRo).set_ 0 v4, ?_, ?_, h.l1⟩, hi.step hM ?_ ?_⟩
  · rw [enc_append, List.length_append, hk]
    exact own_far ho hv _
  · intro j hj hs
    rcases hat with e | e
    · rw [e] at hs; exact h.ap j hj hs
    · rw [e] at hs; injection hs with hs; have := (own_block hi.met.own j hj).2; omega
  · rintro b hb (e | e)
    · omega
    · have := (own_block h.row b e).1; omega
  · rintro j hj (e | e)
    · subst e; exact own_blk_ne hi.met.own h.x2 (by decide) hj
    · exact h.ap j hj e
end

end Go.Proofs.YtbelbhdhcgpcpaaGreatDoor.Gr
