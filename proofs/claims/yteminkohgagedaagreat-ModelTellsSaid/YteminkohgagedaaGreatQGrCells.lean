/- How many cells nodes have. -/
import Derived.Test.YteminkohgagedaaGreatQMoMem
import Derived.Test.YteminkohgagedaaGreatQGrNumber
import Derived.IntWalk
import Derived.Deep.RegionLaw
namespace Go.Proofs.YteminkohgagedaaGreat.Gr
open Go.RowKit Go.Proofs.YteminkohgagedaaGreat.Base
set_option linter.unusedVariables false
set_option linter.unusedSimpArgs false

/-- The numbered form from the roots and from more. -/
def canonM (g : Gr) (more : List Int) : Gr := ⟨(meet [] g.roots).2, canonGo g (g.nodes.length + 1) 0 (meet [] (g.roots ++ more)).1 []⟩
theorem canonM_nil (g : Gr) : canonM g [] = number g := by
  unfold canonM
  rw [List.append_nil]
  rfl
theorem place_meet {o : List Int} {n : Nat} (ho : Ord o n) (a : Int) : placeOf (meet1 o a).1 a = (meet1 o a).2 := by
  by_cases h0 : a = 0
  · subst h0
    rw [meet1_zero]
    exact placeOf_zero.2 (fun h => by have := ho.2 0 h; omega)
  · by_cases hm : a ∈ o
    · rw [meet1_old h0 hm]
    · rw [meet1_new h0 hm]
      show placeOf (o ++ [a]) a = _
      rw [placeOf_snoc hm, if_pos rfl]

structure MetV (w : World) (base np n : Nat) (vO : Value) (o : List Int) : Prop where
  plc : Blk w np 3 (places o n)
  own : w.ownsRow base 3 1 vO o.length (enc ic o)
  apart : vO.ownBlock ≠ some np
section
variable {w w' W' w4 wr w0 : World} {base np op n : Nat} {vO vR vN v4 : Value} {o o' rs : List Int} {S : Nat → Prop}
theorem MetV.mod (h : MetV w base np n vO o) (hm : Mod S w w') (h1 : ¬ S np) (h2 : ∀ k, vO.ownBlock = some k → ¬ S k) : MetV w' base np n vO o := ⟨h.plc.mod hm h1, own_mod h.own hm h2, h.apart⟩
theorem MetV.below (h : MetV w base np n vO o) (hb : Below w.heap.size w w') : MetV w' base np n vO o := h.mod (Mod.of_below (S := fun _ => False) hb) (fun h => h) (fun _ _ h => h)
theorem MetV.at_ (h : MetV w base np n vO o) (a : Int) (h0 : 0 ≤ a) (h1 : a ≤ n) : w.cell? ⟨np, a.toNat, none⟩ = some (.int .i64 (placeOf o a)) := by rw [h.plc.cell, places_get o n a h0 h1]
theorem MetV.add (h : MetV w base np n vO o) {a : Int} (h0 : 0 ≤ a) (h1 : a ≤ n) (hm : a ∉ o) (ob : Obj) (hl : Like (w.alloc ob) W') (hg : W'.grownBy w4 vO.ownBlock) (ho : w4.ownsRow base 3 1 v4 (o.length + 1) (enc ic o ++ [.int .i64 a])) (hat : v4.ownBlock = vO.ownBlock ∨ v4.ownBlock = some W'.heap.size) :
    MetV (w4.setCell ⟨np, a.toNat, none⟩ (.int .i64 ((o.length : Int) + 1))) base np n v4 (o ++ [a]) ∧ Mod (fun b => b = np ∨ vO.ownBlock = some b) w (w4.setCell ⟨np, a.toNat, none⟩ (.int .i64 ((o.length : Int) + 1))) := by
  have z1 : W'.heap.size = w.heap.size + 1 := by rw [hl.heap]; simp
  have zp := h.plc.lt
  have hv : v4.ownBlock ≠ some np := by
    rcases hat with e | e
    · rw [e]; exact h.apart
    · rw [e]; intro e; injection e with e; omega
  refine ⟨⟨?_, ?_, hv⟩, mod_set' (grow_mod (S := fun b => b = np ∨ vO.ownBlock = some b) (Mod.refl _ w) ob hl hg (fun b e _ => .inr e)) (.inl rfl) _⟩
  · have := (grow_keep h.plc ob hl hg h.apart).set_ a.toNat (.int .i64 ((o.length : Int) + 1))
    rwa [places_set o n a h0 h1 hm] at this
  · rw [enc_append, List.length_append]
    exact own_far ho hv _

/-- While the roots, and more, are gone over. -/
structure RA (w0 wr : World) (base np op n : Nat) (vO vR : Value) (o rs : List Int) : Prop where
  met : MetV wr base np n vO o
  out : Blk wr op 25 #[vR, .slice none 0 0]
  row : wr.ownsRow base 3 1 vR rs.length (enc ic rs)
  rnp : vR.ownBlock ≠ some np
  ap : ∀ k, vO.ownBlock = some k → vR.ownBlock ≠ some k
  below : Below base w0 wr
  hnp : base ≤ np
  hop : base ≤ op
theorem RA.place (h : RA w0 wr base np op n vO vR o rs) (hm : MetV w' base np n v4 o') (hM : Mod (fun b => b = np ∨ vO.ownBlock = some b) wr w') (hat : v4.ownBlock = vO.ownBlock ∨ ∃ k, v4.ownBlock = some k ∧ wr.heap.size ≤ k) : RA w0 w' base np op n v4 vR o' rs := by
  have hne : op ≠ np := Base.Blk.ne_ h.out h.met.plc (by decide)
  have hno := own_blk_ne h.met.own h.out (by decide)
  have hlt := h.out.lt
  have hop := h.hop
  refine ⟨hm, h.out.mod hM (by rintro (e | e); exact hne e; exact hno e), own_mod h.row hM ?_, h.rnp, ?_, mod_below h.below hM (by omega) ?_, h.hnp, h.hop⟩
  · rintro k hk (e | e)
    · subst e; exact h.rnp hk
    · exact h.ap k e hk
  · intro k hk hr
    rcases hat with e | ⟨j, e, hj⟩
    · rw [e] at hk; exact h.ap k hk hr
    · rw [e] at hk; injection hk with hk; have := (own_block h.row k hr).2; omega
  · rintro b hb (e | e)
    · have := h.hnp; omega
    · have := (own_block h.met.own b e).1; omega
theorem RA.root (h : RA w0 wr base np op n vO vR o rs) (x : Int) (hM : Mod (fun b => b = op ∨ vR.ownBlock = some b) wr w') (hout : Blk w' op 25 #[v4, .slice none 0 0]) (hrow : w'.ownsRow base 3 1 v4 (rs ++ [x]).length (enc ic (rs ++ [x]))) (hat : v4.ownBlock = vR.ownBlock ∨ ∃ k, v4.ownBlock = some k ∧ wr.heap.size ≤ k) : RA w0 w' base np op n vO v4 o (rs ++ [x]) := by
  have hne : np ≠ op := Base.Blk.ne_ h.met.plc h.out (by decide)
  have hno := own_blk_ne h.met.own h.out (by decide)
  have hlt := h.out.lt
  have hlt2 := h.met.plc.lt
  have hop := h.hop
  refine ⟨h.met.mod hM (by rintro (e | e); exact hne e; exact h.rnp e) ?_, hout, hrow, ?_, ?_, mod_below h.below hM (by omega) ?_, h.hnp, h.hop⟩
  · rintro k hk (e | e)
    · subst e; exact hno hk
    · exact h.ap k hk e
  · rcases hat with e | ⟨j, e, hj⟩
    · rw [e]; exact h.rnp
    · rw [e]; intro e; injection e with e; omega
  · intro k hk hr
    rcases hat with e | ⟨j, e, hj⟩
    · rw [e] at hr; exact h.ap k hk hr
    · rw [e] at hr; injection hr with hr; have := (own_block h.met.own k hk).2; omega
  · rintro b hb (e | e)
    · have := h.hop; omega
    · have := (own_block h.row b e).1; omega

/-- Blocks that may turn while the order is gone over. -/
def HotB (np op : Nat) (vO vN : Value) (b : Nat) : Prop := b = np ∨ b = op ∨ vO.ownBlock = some b ∨ vN.ownBlock = some b
structure RB (w0 wr : World) (base np op n : Nat) (vO vN : Value) (o rs : List Int) (AR : Option Addr) (cR : Nat) (ns : List Nd) (xs : List Value) : Prop where
  met : MetV wr base np n vO o
  out : Blk wr op 25 #[.slice AR rs.length cR, vN]
  roots : CInts wr (HotB np op vO vN) base AR rs
  row : NdRow wr (HotB np op vO vN) base vN xs ns
  below : Below base w0 wr
  hnp : base ≤ np
  hop : base ≤ op
theorem RB.turn {AR : Option Addr} {cR : Nat} {ns : List Nd} {xs : List Value} (h : RB w0 wr base np op n vO vN o rs AR cR ns xs) (hm : MetV w' base np n v4 o') (hM : Mod (fun b => b = np ∨ vO.ownBlock = some b) wr w') (hat : v4.ownBlock = vO.ownBlock ∨ ∃ k, v4.ownBlock = some k ∧ wr.heap.size ≤ k) : RB w0 w' base np op n v4 vN o' rs AR cR ns xs := by
  have hne : op ≠ np := Base.Blk.ne_ h.out h.met.plc (by decide)
  have hno := own_blk_ne h.met.own h.out (by decide)
  have hlt := h.out.lt
  have hop := h.hop
  have hh : ∀ k, HotB np op v4 vN k → HotB np op vO vN k ∨ wr.heap.size ≤ k := by
    rintro k (e | e | e | e)
    · exact .inl (.inl e)
    · exact .inl (.inr (.inl e))
    · rcases hat with e' | ⟨j, e', hj⟩
      · rw [e'] at e; exact .inl (.inr (.inr (.inl e)))
      · rw [e'] at e; injection e with e; exact .inr (by omega)
    · exact .inl (.inr (.inr (.inr e)))
  have hS : ∀ b, b < wr.heap.size → (b = np ∨ vO.ownBlock = some b) → HotB np op vO vN b ∨ b < base := by
    rintro b _ (e | e)
    · exact .inl (.inl e)
    · exact .inl (.inr (.inr (.inl e)))
  refine ⟨hm, h.out.mod hM (by rintro (e | e); exact hne e; exact hno e), h.roots.step hM hS hh, h.row.step hM (fun b hb hs => ⟨hS b hb hs, ?_⟩) hh (fun k e => .inr (.inr (.inr e))), mod_below h.below hM (by omega) ?_, h.hnp, h.hop⟩
  · rcases hs with e | e
    · rw [e]; exact own_blk_ne h.row.own h.met.plc (by decide)
    · intro e'; exact own_own_ne h.met.own h.row.own (by decide) b e e'
  · rintro b hb (e | e)
    · have := h.hnp; omega
    · have := (own_block h.met.own b e).1; omega
theorem RB.snoc {AR A B : Option Addr} {cR c d la lb k : Nat} {ns : List Nd} {xs : List Value} (h : RB w0 wr base np op n vO vN o rs AR cR ns xs) (x : Nd) (hla : x.slots.length = la) (hlb : x.words.length = lb) (hk : ns.length = k) (hA : CInts wr (HotB np op vO vN) base A x.slots) (hB : CInts wr (HotB np op vO vN) base B x.words)
    (ob : Obj) (hl : Like (wr.alloc ob) W') (hg : W'.grownBy w4 vN.ownBlock) (ho : w4.ownsRow base 55 2 v4 (k + 1) (xs ++ [.slice A la c, .slice B lb d])) (hat : v4.ownBlock = vN.ownBlock ∨ v4.ownBlock = some W'.heap.size) :
    RB w0 (w4.setCell ⟨op, 1, none⟩ v4) base np op n vO v4 o rs AR cR (ns ++ [x]) (xs ++ [.slice A la c, .slice B lb d]) := by
  subst hla hlb hk
  have z1 : W'.heap.size = wr.heap.size + 1 := by rw [hl.heap]; simp
  have m1 : Mod (fun _ => False) wr W' := Mod.like (Mod.of_below (below_1 wr ob)) hl
  have hlt := h.out.lt
  have hop := h.hop
  have hne : np ≠ op := Base.Blk.ne_ h.met.plc h.out (by decide)
  have hno := own_blk_ne h.met.own h.out (by decide)
  have hNp := own_blk_ne h.row.own h.met.plc (by decide)
  have hNo := own_blk_ne h.row.own h.out (by decide)
  have h1 := h.row.step m1 (fun _ _ h => h.elim) (fun k h => .inl h) h.row.hotN
  have hA1 := hA.step m1 (fun _ _ h => h.elim) (fun k h => .inl h)
  have hB1 := hB.step m1 (fun _ _ h => h.elim) (fun k h => .inl h)
  have hR1 := h.roots.step m1 (fun _ _ h => h.elim) (fun k h => .inl h)
  have hv : v4.ownBlock ≠ some op := by
    rcases hat with e | e
    · rw [e]; exact hNo
    · rw [e]; intro e; injection e with e; omega
  have hh : ∀ k, HotB np op vO v4 k → HotB np op vO vN k ∨ W'.heap.size ≤ k := by
    rintro b (e | e | e | e)
    · exact .inl (.inl e)
    · exact .inl (.inr (.inl e))
    · exact .inl (.inr (.inr (.inl e)))
    · rcases hat with e' | e'
      · rw [e'] at e; exact .inl (.inr (.inr (.inr e)))
      · rw [e'] at e; injection e with e; exact .inr (by omega)
  have h2 : NdRow w4 (HotB np op vO v4) base v4 (xs ++ [.slice A x.slots.length c, .slice B x.words.length d]) (ns ++ [x]) :=
    h1.snoc x hA1 hB1 hg ho hh (fun k h => .inr (.inr (.inr h)))
  have hR2 : CInts w4 (HotB np op vO v4) base AR rs := hR1.step (Mod.of_grown hg) (fun b _ e => .inl (.inr (.inr (.inr e.symm)))) hh
  have m2 : Mod (fun b => b = op) w4 (w4.setCell ⟨op, 1, none⟩ v4) := mod_set' (S := fun b => b = op) (Mod.refl _ _) rfl _
  have m3 : Mod (fun b => b = op ∨ vN.ownBlock = some b) wr (w4.setCell ⟨op, 1, none⟩ v4) :=
    Mod.trans (Mod.trans (m1.mono (fun _ _ h => h.elim)) (Mod.of_grown hg) (fun b _ e => .inr e.symm)) m2 (fun b _ e => .inl e)
  refine ⟨h.met.mod m3 (by rintro (e | e); exact hne e; exact hNp e) ?_, ?_, hR2.step m2 (fun b _ e => .inl (.inr (.inl e))) (fun k h => .inl h), h2.step m2 ?_ (fun k h => .inl h) (fun k h => .inr (.inr (.inr h))), mod_below h.below m3 (by omega) ?_, h.hnp, h.hop⟩
  · rintro k hk (e | e)
    · subst e; exact hno hk
    · exact own_own_ne h.met.own h.row.own (by decide) k hk e
  · exact (grow_keep h.out ob hl hg hNo).set_ 1 v4
  · rintro b _ rfl
    exact ⟨.inl (.inr (.inl rfl)), hv⟩
  · rintro b hb (e | e)
    · omega
    · have := (own_block h.row.own b e).1; omega
end

end Go.Proofs.YteminkohgagedaaGreat.Gr
namespace Go.Proofs.YteminkohgagedaaGreat.Gr
open Go.RowKit Go.Proofs.YteminkohgagedaaGreat.Base
set_option linter.unusedVariables false
set_option linter.unusedSimpArgs false

def HotI (np op b1 : Nat) (vO vN : Value) (b : Nat) : Prop := HotB np op vO vN b ∨ b1 ≤ b
structure RI (w0 wr : World) (base np op n b1 : Nat) (vO vN : Value) (o rs : List Int) (AR : Option Addr) (cR : Nat) (ns : List Nd) (xs : List Value) : Prop where
  met : MetV wr base np n vO o
  out : Blk wr op 25 #[.slice AR rs.length cR, vN]
  roots : CInts wr (HotI np op b1 vO vN) base AR rs
  row : NdRow wr (HotI np op b1 vO vN) base vN xs ns
  below : Below base w0 wr
  hnp : base ≤ np
  hop : base ≤ op
  lnp : np < b1
  lop : op < b1
  lN : ∀ k, vN.ownBlock = some k → k < b1
  lb : b1 ≤ wr.heap.size
section
variable {w w' wr w0 : World} {base np op n b1 : Nat} {vO vN v4 : Value} {o o' rs : List Int} {S : Nat → Prop} {AR : Option Addr} {cR : Nat} {ns : List Nd} {xs : List Value}
theorem RI.start (h : RB w0 wr base np op n vO vN o rs AR cR ns xs) (hb : Below wr.heap.size wr w') : RI w0 w' base np op n wr.heap.size vO vN o rs AR cR ns xs := by
  have M : Mod (fun _ => False) wr w' := Mod.of_below hb
  have hh : ∀ k, HotI np op wr.heap.size vO vN k → HotB np op vO vN k ∨ wr.heap.size ≤ k := fun k h => h
  have hop := h.hop
  have hlt := h.out.lt
  exact ⟨h.met.below hb, h.out.below hb h.out.lt, h.roots.step M (fun _ _ h => h.elim) hh, h.row.step M (fun _ _ h => h.elim) hh (fun k e => .inl (.inr (.inr (.inr e)))), mod_below h.below M (by omega) (fun _ _ h => h), h.hnp, h.hop, h.met.plc.lt, h.out.lt, fun k e => (own_block h.row.own k e).2, hb.size⟩
/-- What is new since is written. -/
theorem RI.step (h : RI w0 wr base np op n b1 vO vN o rs AR cR ns xs) (hM : Mod S wr w') (hS : ∀ b, b < wr.heap.size → S b → b1 ≤ b) (hO : ∀ k, vO.ownBlock = some k → ¬ S k) : RI w0 w' base np op n b1 vO vN o rs AR cR ns xs := by
  have hlt := h.met.plc.lt
  have hlo := h.out.lt
  have l1 := h.lnp
  have l2 := h.lop
  have l3 := h.lb
  have hop := h.hop
  refine ⟨h.met.mod hM (fun e => by have := hS np hlt e; omega) hO, h.out.mod hM (fun e => by have := hS op hlo e; omega), h.roots.step hM (fun b hb e => .inl (.inr (hS b hb e))) (fun k e => .inl e),
    h.row.step hM (fun b hb e => ⟨.inl (.inr (hS b hb e)), fun e' => by have := h.lN b e'; have := hS b hb e; omega⟩) (fun k e => .inl e) (fun k e => .inl (.inr (.inr (.inr e)))), mod_below h.below hM (by omega) (fun b hb e => by have := hS b (by omega) e; omega), h.hnp, h.hop, h.lnp, h.lop, h.lN, Nat.le_trans l3 hM.size⟩
/-- A node is met. -/
theorem RI.place (h : RI w0 wr base np op n b1 vO vN o rs AR cR ns xs) (hm : MetV w' base np n v4 o') (hM : Mod (fun b => b = np ∨ vO.ownBlock = some b) wr w') (hat : v4.ownBlock = vO.ownBlock ∨ ∃ k, v4.ownBlock = some k ∧ wr.heap.size ≤ k) : RI w0 w' base np op n b1 v4 vN o' rs AR cR ns xs := by
  have hne : op ≠ np := Base.Blk.ne_ h.out h.met.plc (by decide)
  have hno := own_blk_ne h.met.own h.out (by decide)
  have hlt := h.out.lt
  have hop := h.hop
  have hh : ∀ k, HotI np op b1 v4 vN k → HotI np op b1 vO vN k ∨ wr.heap.size ≤ k := by
    rintro k ((e | e | e | e) | e)
    · exact .inl (.inl (.inl e))
    · exact .inl (.inl (.inr (.inl e)))
    · rcases hat with e' | ⟨j, e', hj⟩
      · rw [e'] at e; exact .inl (.inl (.inr (.inr (.inl e))))
      · rw [e'] at e; injection e with e; exact .inr (by omega)
    · exact .inl (.inl (.inr (.inr (.inr e))))
    · exact .inl (.inr e)
  have hS : ∀ b, b < wr.heap.size → (b = np ∨ vO.ownBlock = some b) → HotI np op b1 vO vN b ∨ b < base := by
    rintro b _ (e | e)
    · exact .inl (.inl (.inl e))
    · exact .inl (.inl (.inr (.inr (.inl e))))
  refine ⟨hm, h.out.mod hM (by rintro (e | e); exact hne e; exact hno e), h.roots.step hM hS hh, h.row.step hM (fun b hb hs => ⟨hS b hb hs, ?_⟩) hh (fun k e => .inl (.inr (.inr (.inr e)))), mod_below h.below hM (by omega) ?_, h.hnp, h.hop, h.lnp, h.lop, h.lN, Nat.le_trans h.lb hM.size⟩
  · rcases hs with e | e
    · rw [e]; exact own_blk_ne h.row.own h.met.plc (by decide)
    · intro e'; exact own_own_ne h.met.own h.row.own (by decide) b e e'
  · rintro b hb (e | e)
    · have := h.hnp; omega
    · have := (own_block h.met.own b e).1; omega
/-- The node is done. -/
theorem RI.done (h : RI w0 wr base np op n b1 vO vN o rs AR cR ns xs) : RB w0 wr base np op n vO vN o rs AR cR ns xs := by
  have M : Mod (fun _ => False) wr wr := Mod.refl _ _
  have hh : ∀ k, HotB np op vO vN k → HotI np op b1 vO vN k ∨ wr.heap.size ≤ k := fun k h => .inl (.inl h)
  exact ⟨h.met, h.out, h.roots.step M (fun _ _ h => h.elim) hh, h.row.step M (fun _ _ h => h.elim) hh (fun k e => .inr (.inr (.inr e))), h.below, h.hnp, h.hop⟩
end

/-- The slots of the node that is made: vS lies in the first cell of block b2, and nowhere else. -/
structure RS (wr : World) (b1 b2 : Nat) (vO vN vS : Value) (c1 : Array Value) (ss : List Int) : Prop where
  x1 : Blk wr b1 55 c1
  x2 : Blk wr b2 55 #[vS, .slice none 0 0]
  row : wr.ownsRow b2 3 1 vS ss.length (enc ic ss)
  ap : ∀ k, vO.ownBlock = some k → vS.ownBlock ≠ some k
  l1 : b1 < b2
section
variable {w w' wr w0 W' w4 : World} {base np op n b1 b2 : Nat} {vO vN vS v4 : Value} {o o' rs ss : List Int} {S : Nat → Prop} {AR : Option Addr} {cR : Nat} {ns : List Nd} {xs : List Value} {c1 : Array Value}
theorem RS.place (h : RS wr b1 b2 vO vN vS c1 ss) (hi : RI w0 wr base np op n b1 vO vN o rs AR cR ns xs) (hM : Mod (fun b => b = np ∨ vO.ownBlock = some b) wr w') (hat : v4.ownBlock = vO.ownBlock ∨ ∃ k, v4.ownBlock = some k ∧ wr.heap.size ≤ k) : RS w' b1 b2 v4 vN vS c1 ss := by
  have n1 : b1 ≠ np := Base.Blk.ne_ h.x1 hi.met.plc (by decide)
  have n2 : b2 ≠ np := Base.Blk.ne_ h.x2 hi.met.plc (by decide)
  have n3 := own_blk_ne hi.met.own h.x1 (by decide)
  have n4 := own_blk_ne hi.met.own h.x2 (by decide)
  refine ⟨h.x1.mod hM (by rintro (e | e); exact n1 e; exact n3 e), h.x2.mod hM (by rintro (e | e); exact n2 e; exact n4 e), own_mod h.row hM ?_, ?_, h.l1⟩
  · rintro k hk (e | e)
    · have := (own_block h.row k hk).1; have := hi.lnp; have := h.l1; omega
    · exact h.ap k e hk
  · intro k hk hs
    rcases hat with e | ⟨j, e, hj⟩
    · rw [e] at hk; exact h.ap k hk hs
    · rw [e] at hk; injection hk with hk; have := (own_block h.row k hs).2; omega
/-- One slot more. -/
theorem RS.more {k : Nat} {x : Int} (h : RS wr b1 b2 vO vN vS c1 ss) (hi : RI w0 wr base np op n b1 vO vN o rs AR cR ns xs) (hk : ss.length = k) (ob : Obj) (hl : Like (wr.alloc ob) W') (hg : W'.grownBy w4 vS.ownBlock)
    (ho : w4.ownsRow b2 3 1 v4 (k + 1) (enc ic ss ++ [.int .i64 x])) (hat : v4.ownBlock = vS.ownBlock ∨ v4.ownBlock = some W'.heap.size) :
    RS (w4.setCell ⟨b2, 0, none⟩ v4) b1 b2 vO vN v4 c1 (ss ++ [x]) ∧ RI w0 (w4.setCell ⟨b2, 0, none⟩ v4) base np op n b1 vO vN o rs AR cR ns xs := by
  have z1 : W'.heap.size = wr.heap.size + 1 := by rw [hl.heap]; simp
  have zo := h.x2.lt
  have hRo := own_blk_ne h.row h.x2 (by decide)
  have hR1 := own_blk_ne h.row h.x1 (by decide)
  have hl1 := h.l1
  have hv : v4.ownBlock ≠ some b2 := by
    rcases hat with e | e
    · rw [e]; exact hRo
    · rw [e]; intro e; injection e with e; omega
  have hM : Mod (fun b => b = b2 ∨ vS.ownBlock = some b) wr (w4.setCell ⟨b2, 0, none⟩ v4) := mod_set' (grow_mod (S := fun b => b = b2 ∨ vS.ownBlock = some b) (Mod.refl _ wr) ob hl hg (fun b e _ => .inr e)) (.inl rfl) _
  refine ⟨⟨h.x1.mod hM (by rintro (e | e); omega; exact hR1 e), (grow_keep h.x2 ob hl hg hRo).set_ 0 v4, ?_, ?_, h.l1⟩, hi.step hM ?_ ?_⟩
  · rw [enc_append, List.length_append, hk]
    exact own_far ho hv _
  · intro j hj hs
    rcases hat with e | e
    · rw [e] at hs; exact h.ap j hj hs
    · rw [e] at hs; injection hs with hs; have := (own_block hi.met.own j hj).2; omega
  · rintro b hb (e | e)
    · omega
    · have := (own_block h.row b e).1; omega
  · rintro j hj (e | e)
    · subst e; exact own_blk_ne hi.met.own h.x2 (by decide) hj
    · exact h.ap j hj e
end

end Go.Proofs.YteminkohgagedaaGreat.Gr
namespace Go.Proofs.YteminkohgagedaaGreat.Gr
open Go.RowKit Go.Proofs.YteminkohgagedaaGreat.Base
set_option linter.unusedVariables false
set_option linter.unusedSimpArgs false

theorem field_nodes (v0 v1 : Value) (w : World) : (Instr.field 25 (.agg #[v0, v1]) 1).run Tryz.prog w = .ok v1 w := by
  simp [go_sem, Instr.field, run_underlying Tryz.underlying25, part, asAgg]
theorem canon_right {g : Gr} (h : right g = true) : canon g = number g := by simp [canon, h]
theorem box_zero (w : World) (cs : Array Value) (t : TypeId) (o : Obj) : Below w.heap.size w ((w.alloc (.cells cs t)).alloc o) := below_then (below_1 _ _) (below_1 _ _)

theorem header_any (s n : Nat) (w : World) (hs : s ≤ 15) (hn : n ≤ 30) :
    Calls Tryz.prog 112 #[.int .i64 s, .int .i64 n] w fun e w' => e = .returned (.tuple #[.int .i64 (16777216 + 256 * s + n), .bool true]) ∧ w' = w := by
  have e1 : decide ((s : Int) < 0) = false := decide_eq_false (by omega)
  have e2 : decide ((s : Int) > 15) = false := decide_eq_false (by omega)
  have e3 : decide ((n : Int) < 0) = false := decide_eq_false (by omega)
  have e4 : decide ((n : Int) > 30) = false := decide_eq_false (by omega)
  go_enter Tryz.func112, Tryz.ntmps112
  go_wp2
  go_ret2
  exact ⟨rfl, rfl⟩
theorem osize_any (s n : Nat) (w : World) (hs : s ≤ 15) (hn : n ≤ 30) :
    Calls Tryz.prog 104 #[.int .i64 s, .int .i64 n] w fun e w' => e = .returned (.int .i64 (1 + s + n)) ∧ w' = w := by
  go_enter Tryz.func104, Tryz.ntmps104
  go_wp2_with fail
  refine (header_any s n w hs hn).mono ?_
  rintro e w1 ⟨rfl, rfl⟩
  go_wp2
  go_ret
  exact ⟨rfl, rfl⟩

theorem cells_take (l : List Nd) (k : Nat) (h : k < l.length) : cells (l.take (k + 1)) = cells (l.take k) + (1 + l[k].slots.length + l[k].words.length) := by
  rw [List.take_succ_eq_append_getElem h, cells, List.map_append, List.sum_append, List.map_cons, List.map_nil, List.sum_cons, List.sum_nil]
  rfl
theorem cells_small {l : List Nd} (h : ∀ x ∈ l, x.slots.length ≤ 15 ∧ x.words.length ≤ 30) : cells l ≤ 46 * l.length := by
  induction l with
  | nil => simp [cells]
  | cons x l ih =>
    have h1 := ih (fun y hy => h y (List.mem_cons_of_mem _ hy))
    have h2 := h x (List.mem_cons_self)
    simp only [cells, List.map_cons, List.sum_cons, List.length_cons] at *
    omega

set_option maxRecDepth 100000 in
set_option maxHeartbeats 2000000 in
theorem cells_any (D : Option Addr) (l : List Nd) (d : Nat) (w : World) (hD : Nodes w D l) (hl : l.length ≤ 100000) (hx : ∀ x ∈ l, x.slots.length ≤ 15 ∧ x.words.length ≤ 30) :
    Calls Tryz.prog 79 #[.slice D l.length d] w fun e w' => e = .returned (.int .i64 (cells l)) ∧ Below w.heap.size w w' := by
  have HD := Lib.hid hD
  have HX := Lib.hid hx
  clear hD hx
  go_enter Tryz.func79, Tryz.ntmps79
  go_wp2
  go_loopw [3, 8] (fun s i wr => ∃ (k : Nat), k ≤ l.length ∧ i = .int .i64 k ∧ s = .int .i64 (cells (l.take k)) ∧ Hid (Below w.heap.size w wr)) (fun s i _ => l.length - (intOf i).toNat)
  case atStart => exact ⟨0, Nat.zero_le _, rfl, rfl, Lib.hid (Below.refl _ _)⟩
  case round =>
    obtain ⟨k, hk, rfl, rfl, HB⟩ := hrel
    by_cases hlt : k < l.length
    · obtain ⟨dd, As, cs, Bs, ds, rfl, d2, d3, i1, i2⟩ := nds_at (HD.out.below HB.out) k hlt
      have hxk := HX.out l[k] (List.getElem_mem hlt)
      have HT := Lib.hid (cells_take l k hlt)
      have hsm : cells (l.take k) ≤ 46 * k := by
        have := cells_small (l := l.take k) (fun x hx => HX.out x (List.mem_of_mem_take hx))
        rw [List.length_take] at this
        omega
      generalize cells (l.take k) = z at HT hsm
      generalize l[k] = x at d2 d3 i1 i2 hxk HT
      generalize x.slots.length = sl at d2 hxk HT
      generalize x.words.length = wl at d3 hxk HT
      obtain ⟨hx1, hx2⟩ := hxk
      clear i1 i2
      go_wp2_with fail
      refine (osize_any sl wl _ hx1 hx2).mono ?_
      rintro e w1 ⟨rfl, rfl⟩
      go_wp2
      go_roundw
      case rel =>
        refine ⟨k + 1, by omega, by go_num, ?_, Lib.hid (below_then HB.out (below_1 _ _))⟩
        rw [HT.out]
        go_num
      case measure => simp [intOf]; omega
    · go_wp2
      go_ret
      have hkl : k = l.length := by omega
      subst hkl
      rw [List.take_length]
      exact ⟨rfl, HB.out⟩


end Go.Proofs.YteminkohgagedaaGreat.Gr
