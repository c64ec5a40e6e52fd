/- The book's functions over lists of nodes (4): what a book holds of them; one list more. Printed by gen_bknodes4.py out of book.tpl. -/
import Derived.Test.YtbelbhdhcgpcpaaGreatDoorBkNodes3
namespace Go.Proofs.YtbelbhdhcgpcpaaGreatDoor.BkNodes
open Go.RowKit Go.Proofs.YtbelbhdhcgpcpaaGreatDoor.Base Go.Proofs.YtbelbhdhcgpcpaaGreatDoor.Bk Go.Proofs.YtbelbhdhcgpcpaaGreatDoor.Gr
set_option linter.unusedVariables false
set_option linter.unusedSimpArgs false

/-! ### what a book holds of this kind; one list more -/
structure BK (w : World) (X : Nat) (cs : Array Value) (vs was : List Value) (c c2 : Nat → List NC) (AK AW : Option Addr) (cK cW : Nat) : Prop where
  k0 : cs[10]? = some (.slice AK vs.length cK)
  k1 : cs[11]? = some (.slice AW was.length cW)
  kept : kd w (.slice AK vs.length cK) vs c
  was_ : kd w (.slice AW was.length cW) was c2
  len : was.length = vs.length
  rows : ∀ b, (Value.slice AK vs.length cK).ownBlock = some b → (Value.slice AW was.length cW).ownBlock ≠ some b
theorem BK.below {w w' : World} {X : Nat} {cs : Array Value} {vs was : List Value} {c c2 : Nat → List NC} {AK AW : Option Addr} {cK cW : Nat} (h : BK w X cs vs was c c2 AK AW cK cW) (hb : Below w.heap.size w w') : BK w' X cs vs was c c2 AK AW cK cW :=
  ⟨h.k0, h.k1, h.kept.below hb, h.was_.below hb, h.len, h.rows⟩
/-- The lists with one more. -/
def more (c : Nat → List NC) (m : Nat) (l : List NC) (i : Nat) : List NC := if i = m then l else c i
theorem kd_more {w w1 w' : World} {ob : Obj} {AK : Option Addr} {cK : Nat} {vs : List Value} {c : Nat → List NC} {v v' : Value} {l : List NC} (h : kd w (.slice AK vs.length cK) vs c) (hv : w1.ownsRow 0 45 2 v l.length (enc nf l)) (hb : Below w.heap.size w w1)
    (hn : ∀ b, v.ownBlock = some b → ¬ InVs vs b) (ho : w'.ownsRow 0 23 1 v' (vs.length + 1) (vs ++ [v])) (hg : (w1.alloc ob).grownBy w' (Value.slice AK vs.length cK).ownBlock) : kd w' v' (vs ++ [v]) (more c vs.length l) := by
  have hm : Mod (fun b => some b = (Value.slice AK vs.length cK).ownBlock) w1 w' := by
    have h1 : Mod (fun b => some b = (Value.slice AK vs.length cK).ownBlock) w1 (w1.alloc ob) := Mod.of_below ((Below.refl _ _).alloc (Nat.le_refl _) _)
    exact h1.trans (Mod.of_grown hg) (fun _ _ h => h)
  have h1 := Kd.below h hb
  have hget : ∀ i u, (vs ++ [v])[i]? = some u → (i < vs.length ∧ vs[i]? = some u) ∨ (i = vs.length ∧ u = v) := by
    intro i u hu
    by_cases hi : i < vs.length
    · rw [List.getElem?_append_left hi] at hu; exact .inl ⟨hi, hu⟩
    · rw [List.getElem?_append_right (by omega)] at hu
      have : i - vs.length = 0 := by
        rcases Nat.eq_zero_or_pos (i - vs.length) with h | h
        · exact h
        · rw [List.getElem?_eq_none (by simp; omega)] at hu; cases hu
      rw [this] at hu
      injection hu with hu
      exact .inr ⟨by omega, hu.symm⟩
  refine ⟨by rw [List.length_append]; exact ho, fun i u hu => ?_, fun i j u u' hij hu hu' b hb1 hb2 => ?_⟩
  · rcases hget i u hu with ⟨hi, hu⟩ | ⟨rfl, rfl⟩
    · have e : more c vs.length l i = c i := if_neg (by omega)
      rw [e]
      exact own_mod (h1.own i u hu) hm (fun b hb hS => own_type (h1.own i u hu) h1.row (by decide) b hb hS.symm)
    · have e : more c vs.length l vs.length = l := if_pos rfl
      rw [e]
      exact own_mod hv hm (fun b hb hS => own_type hv h1.row (by decide) b hb hS.symm)
  · rcases hget i u hu with ⟨hi, hu1⟩ | ⟨rfl, rfl⟩
    · rcases hget j u' hu' with ⟨hj, hu2⟩ | ⟨rfl, rfl⟩
      · exact h.apart i j u u' hij hu1 hu2 b hb1 hb2
      · exact hn b hb2 (InVs.of_get hu1 hb1)
    · rcases hget j u' hu' with ⟨hj, hu'⟩ | ⟨rfl, rfl⟩
      · omega
      · omega

/-- What such a call leaves. -/
def Added (w w' : World) (X : Nat) (cs : Array Value) (vs was : List Value) (c c2 : Nat → List NC) (AK AW : Option Addr) (cK cW : Nat) (A : Option Addr) (q : Nat) (l : List NC) (xs : List Nd) : Prop :=
  ∃ (AK' AW' : Option Addr) (cK' cW' : Nat) (v2 : Value) (l2 : List NC),
      Blk w' X 37 ((cs.setIfInBounds 10 (.slice AK' (vs.length + 1) cK')).setIfInBounds 11 (.slice AW' (was.length + 1) cW')) ∧
      BK w' X ((cs.setIfInBounds 10 (.slice AK' (vs.length + 1) cK')).setIfInBounds 11 (.slice AW' (was.length + 1) cW')) (vs ++ [.slice A l.length q]) (was ++ [v2]) (more c vs.length l) (more c2 was.length l2) AK' AW' cK' cW' ∧ Deeps w' w.heap.size l2 xs ∧
      Mod (fun b => b = X ∨ (Value.slice AK vs.length cK).ownBlock = some b ∨ (Value.slice AW was.length cW).ownBlock = some b) w w' ∧
      (∀ b, (Value.slice AK' (vs.length + 1) cK').ownBlock = some b → (Value.slice AK vs.length cK).ownBlock = some b ∨ w.heap.size ≤ b) ∧
      (∀ b, (Value.slice AW' (was.length + 1) cW').ownBlock = some b → (Value.slice AW was.length cW).ownBlock = some b ∨ w.heap.size ≤ b)
/-- All that the last append and the last store do. -/
theorem add_end {X : Nat} {cs : Array Value} {vs was : List Value} {c c2 : Nat → List NC} {AW A1 A3 A4 A : Option Addr} {cW k1 k3 k4 q : Nat} {l l2 : List NC} {w w2 w3 w4 : World} {S0 : Nat → Prop} {x y : Value}
    (h0 : cs[10]? = some x) (h1 : cs[11]? = some y) (hlen : was.length = vs.length) (HX4 : Blk w4 X 37 (cs.setIfInBounds 10 (.slice A1 (vs.length + 1) k1))) (HM2 : Mod S0 w w2)
    (HK2 : kd w2 (.slice A1 (vs.length + 1) k1) (vs ++ [.slice A l.length q]) (more c vs.length l)) (HW2 : kd w2 (.slice AW was.length cW) was c2) (HX2 : Blk w2 X 37 (cs.setIfInBounds 10 (.slice A1 (vs.length + 1) k1)))
    (HR2 : ∀ b, (Value.slice A1 (vs.length + 1) k1).ownBlock = some b → (Value.slice AW was.length cW).ownBlock ≠ some b) (HD3 : Below w2.heap.size w2 w3) (hl2 : l2.length = l.length) (HO3 : w3.ownsRow w2.heap.size 45 2 (.slice A3 l.length k3) l.length (enc nf l2))
    (HO4 : w4.ownsRow 0 23 1 (.slice A4 (was.length + 1) k4) (was.length + 1) (was ++ [.slice A3 l.length k3])) (HG4 : (w3.alloc (.cells #[.slice A3 l.length k3] 23)).grownBy w4 (Value.slice AW was.length cW).ownBlock)
    (HA4 : (Value.slice A4 (was.length + 1) k4).ownBlock = (Value.slice AW was.length cW).ownBlock ∨ (Value.slice A4 (was.length + 1) k4).ownBlock = some (w3.alloc (.cells #[.slice A3 l.length k3] 23)).heap.size) :
    Blk (w4.setCell ⟨X, 11, none⟩ (.slice A4 (was.length + 1) k4)) X 37 ((cs.setIfInBounds 10 (.slice A1 (vs.length + 1) k1)).setIfInBounds 11 (.slice A4 (was.length + 1) k4)) ∧
    BK (w4.setCell ⟨X, 11, none⟩ (.slice A4 (was.length + 1) k4)) X ((cs.setIfInBounds 10 (.slice A1 (vs.length + 1) k1)).setIfInBounds 11 (.slice A4 (was.length + 1) k4)) (vs ++ [.slice A l.length q]) (was ++ [.slice A3 l.length k3]) (more c vs.length l) (more c2 was.length l2) A1 A4 k1 k4 ∧
    Mod (fun b => b = X ∨ S0 b ∨ (Value.slice AW was.length cW).ownBlock = some b) w (w4.setCell ⟨X, 11, none⟩ (.slice A4 (was.length + 1) k4)) := by
  have hm4 : Mod (fun b => (Value.slice AW was.length cW).ownBlock = some b) w2 w4 := (mod_below (Mod.of_below HD3) (below_new w3 _)).trans (Mod.of_grown HG4) (fun b _ hS => hS.symm)
  have hset := mod_set1 w4 X 11 (.slice A4 (was.length + 1) k4)
  obtain ⟨e0, e1⟩ := BkInts.book_cells (a := .slice A1 (vs.length + 1) k1) (b := .slice A4 (was.length + 1) k4) h0 h1 (by decide)
  have hz := HD3.size
  have hk4 : kd w4 (.slice A1 (vs.length + 1) k1) (vs ++ [.slice A l.length q]) (more c vs.length l) :=
    Kd.mod HK2 hm4 (fun b hb hS => HR2 b hb hS) (fun b hb hS => by
      obtain ⟨v, hv, hb⟩ := hb
      obtain ⟨i, hi⟩ := List.mem_iff_getElem?.1 hv
      exact own_type (HK2.own i v hi) HW2.row (by decide) b hb hS)
  have hw4 : kd w4 (.slice A4 (was.length + 1) k4) (was ++ [.slice A3 l.length k3]) (more c2 was.length l2) :=
    kd_more HW2 (by rw [hl2]; exact own_zero HO3) HD3 (fun b hb hS => by
      have := (own_block HO3 b hb).1
      have := HW2.block b hS
      omega) HO4 HG4
  have hx : ∀ {vK : Value} {vs' : List Value} {c' : Nat → List NC}, kd w4 vK vs' c' → kd (w4.setCell ⟨X, 11, none⟩ (.slice A4 (was.length + 1) k4)) vK vs' c' := fun {vK vs' c'} h =>
    Kd.mod h hset (fun b hb hS => by
      injection hS with hS
      subst hS
      exact own_blk_ne h.row HX4 (by decide) hb) (fun b hb hS => by
      injection hS with hS
      subst hS
      obtain ⟨v, hv, hb⟩ := hb
      obtain ⟨i, hi⟩ := List.mem_iff_getElem?.1 hv
      exact own_blk_ne (h.own i v hi) HX4 (by decide) hb)
  refine ⟨HX4.set_ 11 _, ⟨by rw [List.length_append]; exact e0, by rw [List.length_append]; exact e1, ?_, ?_, by simp [hlen], ?_⟩, ?_⟩
  · rw [List.length_append]; exact hx hk4
  · rw [List.length_append]; exact hx hw4
  · intro b hb e
    rw [List.length_append] at hb e
    rcases HA4 with h | h
    · exact HR2 b hb (h ▸ e)
    · have h1 := (own_block HK2.row b hb).2
      have : some b = some (w3.alloc (.cells #[.slice A3 l.length k3] 23)).heap.size := e.symm.trans h
      injection this with this
      simp at this
      omega
  · refine ((HM2.mono (fun b _ h => .inr (.inl h))).trans hm4 (fun b _ hS => .inr (.inr hS))).trans hset (fun b _ hS => .inl ?_)
    injection hS with hS
    exact hS.symm
theorem reads_drew' {w : World} {s n : Nat} {A : Option Addr} {xs : List Value} (h : Reads w s A n xs) : Reads w.drew s A n xs := h
set_option maxRecDepth 100000 in
set_option maxHeartbeats 4000000 in
theorem add_any (X : Nat) (cs : Array Value) (vs was : List Value) (c c2 : Nat → List NC) (AK AW : Option Addr) (cK cW : Nat) (A : Option Addr) (q : Nat) (l : List NC) (w : World) (hX : Blk w X 37 cs) (h : BK w X cs vs was c c2 AK AW cK cW)
    (xs : List Nd) (hdp : Deeps w 0 l xs) (hxs : ∀ x ∈ xs, x.slots.length ≤ 100000 ∧ x.words.length ≤ 100000) (hv : w.ownsRow 0 45 2 (.slice A l.length q) l.length (enc nf l)) (hn : ∀ b, (Value.slice A l.length q).ownBlock = some b → ¬ InVs vs b) (hl : l.length ≤ 100000) (hm : vs.length < 250) :
    Calls Tryz.prog 29 #[.pointer (some ⟨X, 0, none⟩), .slice A l.length q] w fun e w' => e = .returned (.tuple #[]) ∧ Added w w' X cs vs was c c2 AK AW cK cW A q l xs := by
  have x0 := (hX.cell 10).trans h.k0
  have x1 := (hX.cell 11).trans h.k1
  have xf := hX.frozen 10
  have x2 := hX.lt
  have HX := Lib.hid hX
  have HH := Lib.hid h
  have HV := Lib.hid hv
  have HDP := Lib.hid hdp
  have HXS := Lib.hid hxs
  have HLL := Lib.hid hdp.1
  have HN := Lib.hid hn
  have dm : decide ((vs.length : Int) < 250) = true := decide_eq_true (by omega)
  have HLEN := Lib.hid h.len
  have hmw : was.length < 250 := by rw [h.len]; exact hm
  clear hX h hv hn hdp hxs
  obtain ⟨i1, hi1, hz10, hz11, hz12⟩ := info_parts sliceInfo
  go_enter Tryz.func29, Tryz.ntmps29
  go_wp2_with (first
    | (at_builtin
       refine wpList_append_any _ rfl (.tmp 14) (.tmp 16) _ rfl 0 23 i1 _ 1 24 Tryz.underlying35 hi1 hz10 hz11 hz12 rfl (by omega) (.slice AK vs.length cK) vs.length vs (by rfl) (own_below HH.out.kept.row (below_new _ _)) _ 1 1 _ (by rfl) (Reads.new _ _ rfl) (by simp [Value.oneCell']) (fun e => by cases e) (by simp only [maxLen]; omega) (by omega) (Nat.zero_le _) ?_
       intro v1 w1 hown1 hg1 hat1
       obtain ⟨A1, k1, rfl, hk1⟩ := own_form hown1
       have HO1 := Lib.hid hown1
       have HG1 := Lib.hid hg1
       have HA1 := Lib.hid hat1
       have hX1 := (HX.out.alloc _).mod (Mod.of_grown hg1) (fun e => own_blk_ne HH.out.kept.row HX.out (by decide) e.symm)
       have y0 := (hX1.cell 10).trans HH.out.k0
       have y1 := (hX1.cell 11).trans HH.out.k1
       have yf := hX1.frozen 10
       have y2 := hX1.lt
       have HX1 := Lib.hid hX1
       clear hown1 hg1 hat1 hX1))
  have hX2 : Blk (w1.setCell ⟨X, 10, none⟩ (.slice A1 (vs.length + 1) k1)) X 37 (cs.setIfInBounds 10 (.slice A1 (vs.length + 1) k1)) := HX1.out.set_ 10 _
  have hko : ∀ (b2 e2 s2 n2 : Nat) (v2 : Value) (x2 : List Value), w.ownsRow b2 e2 s2 v2 n2 x2 → (∀ b, v2.ownBlock = some b → (Value.slice AK vs.length cK).ownBlock ≠ some b ∧ b ≠ X) → (w1.setCell ⟨X, 10, none⟩ (.slice A1 (vs.length + 1) k1)).ownsRow b2 e2 s2 v2 n2 x2 := fun b2 e2 s2 n2 v2 x2 ho hb =>
    own_mod (own_mod (own_below ho (below_new _ _)) (Mod.of_grown HG1.out) (fun b hb' hS => (hb b hb').1 hS.symm)) (S := fun b => some X = some b) (mod_set1 _ _ _ _) (fun b hb' hS => (hb b hb').2 (by injection hS with hS; exact hS.symm))
  have hm2 : Mod (fun b => b = X ∨ (Value.slice AK vs.length cK).ownBlock = some b) w (w1.setCell ⟨X, 10, none⟩ (.slice A1 (vs.length + 1) k1)) :=
    ((Mod.of_below (S := fun b => b = X ∨ (Value.slice AK vs.length cK).ownBlock = some b) (below_new w _)).trans (Mod.of_grown HG1.out) (fun b _ hS => .inr hS.symm)).trans (mod_set1 _ X _ _) (fun b _ hS => .inl (by injection hS with hS; exact hS.symm))
  have hK2 : kd (w1.setCell ⟨X, 10, none⟩ (.slice A1 (vs.length + 1) k1)) (.slice A1 (vs.length + 1) k1) (vs ++ [.slice A l.length q]) (more c vs.length l) := by
    have h1 := kd_more HH.out.kept HV.out (Below.refl _ _) HN.out HO1.out HG1.out
    refine Kd.mod (S := fun b => some X = some b) h1 (mod_set1 _ _ _ _) (fun b hb hS => ?_) (fun b hb hS => ?_)
    · injection hS with hS
      subst hS
      exact own_blk_ne h1.row HX1.out (by decide) hb
    · injection hS with hS
      subst hS
      obtain ⟨v, hv, hb⟩ := hb
      obtain ⟨i, hi⟩ := List.mem_iff_getElem?.1 hv
      exact own_blk_ne (h1.own i v hi) HX1.out (by decide) hb
  have hW2 : kd (w1.setCell ⟨X, 10, none⟩ (.slice A1 (vs.length + 1) k1)) (.slice AW was.length cW) was c2 := by
    refine ⟨hko _ _ _ _ _ _ HH.out.was_.row (fun b hb => ⟨fun e => HH.out.rows b e hb, ?_⟩), fun i v hi => hko _ _ _ _ _ _ (HH.out.was_.own i v hi) (fun b hb => ⟨fun e => own_type (HH.out.was_.own i v hi) HH.out.kept.row (by decide) b hb e, ?_⟩), HH.out.was_.apart⟩
    · rintro rfl; exact own_blk_ne HH.out.was_.row HX.out (by decide) hb
    · rintro rfl; exact own_blk_ne (HH.out.was_.own i v hi) HX.out (by decide) hb
  have hV2 := hko _ _ _ _ _ _ HV.out (fun b hb => ⟨fun e => own_type HV.out HH.out.kept.row (by decide) b hb e, by rintro rfl; exact own_blk_ne HV.out HX.out (by decide) hb⟩)
  have hr2 : ∀ b, (Value.slice A1 (vs.length + 1) k1).ownBlock = some b → (Value.slice AW was.length cW).ownBlock ≠ some b := fun b hb e => by
    rcases HA1.out with h | h
    · rw [h] at hb; exact HH.out.rows b hb e
    · rw [h] at hb
      injection hb with hb
      have := (own_block HH.out.was_.row b e).2
      simp at hb
      omega
  generalize hw2 : w1.setCell ⟨X, 10, none⟩ (.slice A1 (vs.length + 1) k1) = w2 at hX2 hm2 hK2 hW2 hV2 ⊢
  have HX2 := Lib.hid hX2
  have HM2 := Lib.hid hm2
  have HK2 := Lib.hid hK2
  have HW2 := Lib.hid hW2
  have hS1 : ∀ b, some b = (Value.slice AK vs.length cK).ownBlock → b < 0 ∨ NotInt (w.alloc (.cells #[.slice A l.length q] 23)) b := fun b hb => .inr (NotInt.of_own (own_below HH.out.kept.row (below_new _ _)) (by decide) hb.symm)
  have hS2 : ∀ b, some X = some b → b < 0 ∨ NotInt w1 b := fun b hb => by
    injection hb with hb
    subst hb
    exact .inr (NotInt.of_blk HX1.out (by decide))
  have hdp2 : Deeps w2 0 l xs := by
    rw [← hw2]
    exact ((HDP.out.below (below_new _ _)).mod (Mod.of_grown HG1.out) hS1).mod (mod_set1 _ _ _ _) hS2
  have HN2 := Lib.hid (nodes_of (A := A) (own_reads hV2).2 hdp2 (by rw [← HLL.out]; exact hl))
  have HR2 := Lib.hid hr2
  have HC2 := Lib.hid (show ∀ W, Below w2.heap.size w2 W → W.cell? ⟨X, 11, none⟩ = some (.slice AW was.length cW) ∧ W.frozen? ⟨X, 11, none⟩ = false ∧ X < W.heap.size from fun W hb => by
    have h := hX2.below hb hX2.lt
    refine ⟨(h.cell 11).trans ?_, h.frozen 11, h.lt⟩
    rw [Array.getElem?_setIfInBounds_ne (by decide)]
    exact HH.out.k1)
  clear hX2 hm2 hK2 hW2 hV2 hr2 hko hw2 hS1 hS2 hdp2 y0 y1 yf y2 x0 x1 xf x2
  obtain ⟨x0, xf, x2⟩ := HC2.out _ (Below.refl _ _)
  have x3 : X < w2.heap.size + 1 := by omega
  go_region_law (first
    | ((try go_simp)
       go_at_call 70
       have kc := copy_any A xs q w2.drew (HN2.out.below (Below.refl _ _).drew) (by rw [← HLL.out]; exact hl) HXS.out
       rw [← HLL.out] at kc
       refine kc.mono ?_
       rintro e w3 ⟨A3, k3, l2, rfl, ho3, hd3, hb3⟩
       have HL2 := Lib.hid (show l2.length = l.length by rw [hd3.1, ← HLL.out])
       have HDD := Lib.hid hd3
       have hD3 : Below w2.heap.size w2 w3 := (Below.refl _ _).drew.trans hb3
       obtain ⟨y0, yf, y2⟩ := HC2.out _ hD3
       have y3 : X < w3.heap.size + 1 := by omega
       have HO3 := Lib.hid ho3
       have HD3 := Lib.hid hD3
       clear ho3 hb3 hD3 hd3 kc)
    | (refine step_append_any _ rfl _ _ _ (by rfl) 0 23 i1 _ 1 24 Tryz.underlying35 hi1 hz10 hz11 hz12 rfl (by omega) (.slice AW was.length cW) was.length was (by rfl) (own_below (own_below HW2.out.row HD3.out) (below_new _ _)) _ 1 1 _ (by rfl) (Reads.new _ _ rfl) (by simp [Value.oneCell']) (fun e => by cases e) (by simp only [maxLen]; omega) (by omega) (Nat.zero_le _) ?_
       intro v4 w4 hown4 hg4 hat4
       obtain ⟨A4, k4, rfl, hk4⟩ := own_form hown4
       have HO4 := Lib.hid hown4
       have HG4 := Lib.hid hg4
       have HA4 := Lib.hid hat4
       have hX4 := ((HX2.out.below HD3.out HX2.out.lt).alloc (.cells #[.slice A3 l.length k3] 23)).mod (Mod.of_grown hg4) (fun e => own_blk_ne HW2.out.row HX2.out (by decide) e.symm)
       have q0 := hX4.frozen 11
       have q1 : ∃ u, w4.cell? ⟨X, 11, none⟩ = some u := ⟨_, (hX4.cell 11).trans (by rw [Array.getElem?_setIfInBounds_ne (by decide)]; exact HH.out.k1)⟩
       have q2 := hX4.lt
       obtain ⟨qv, q1⟩ := q1
       have HX4 := Lib.hid hX4
       clear hown4 hg4 hat4 hX4))
  all_goals
    go_wp2_with fail
    go_end0
    obtain ⟨r1, r2, r3⟩ := add_end HH.out.k0 HH.out.k1 HLEN.out HX4.out HM2.out HK2.out HW2.out HX2.out HR2.out HD3.out HL2.out HO3.out HO4.out HG4.out HA4.out
    refine ⟨rfl, A1, A4, k1, k4, _, l2, r1, r2, ?_, r3.mono (fun b _ h => ?_), fun b hb => ?_, fun b hb => ?_⟩
    · have hm4 : Mod (fun b => some b = (Value.slice AW was.length cW).ownBlock) _ _ := Mod.of_grown HG4.out
      have h3 := (HDD.out.low (lo' := w2.heap.size) (Nat.le_refl _)).below (below_new w3 (.cells #[.slice A3 l.length k3] 23))
      have h4 := h3.mod hm4 (fun b hb => .inr (NotInt.of_own (own_below (own_below HW2.out.row HD3.out) (below_new _ _)) (by decide) hb.symm))
      have h5 := h4.mod (mod_set1 w4 X 11 (.slice A4 (was.length + 1) k4)) (fun b hb => by
        injection hb with hb
        subst hb
        exact .inr (NotInt.of_blk HX4.out (by decide)))
      exact h5.low HM2.out.size
    · rcases h with h | (h | h) | h
      · exact .inl h
      · exact .inl h
      · exact .inr (.inl h)
      · exact .inr (.inr h)
    · rcases HA1.out with h | h
      · exact .inl (h ▸ hb)
      · have e := h.symm.trans hb
        injection e with e
        simp at e
        exact .inr (by omega)
    · rcases HA4.out with h | h
      · exact .inl (h ▸ hb)
      · have e := h.symm.trans hb
        injection e with e
        simp at e
        have := HD3.out.size
        have := HM2.out.size
        exact .inr (by omega)


end Go.Proofs.YtbelbhdhcgpcpaaGreatDoor.BkNodes
