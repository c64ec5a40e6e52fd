/- The statement GraphTells: for every input its function answers true, and what was handed in stays. (The row; its walk is BkNodes.tells_walk.) Printed by gen_row.py, a program of this session. -/
import Derived.Test.YtbelbhdhcgpcpaaGreatDoorGrNum
import Derived.Test.YtbelbhdhcgpcpaaGreatDoorGrScan
import Derived.Test.YtbelbhdhcgpcpaaGreatDoorGrTellsR5
import Derived.Test.YtbelbhdhcgpcpaaGreatDoorGrPlain
import Derived.Test.YtbelbhdhcgpcpaaGreatDoorProg
import Derived.ProofKit
import Derived.OpenShut
import Derived.ShutString
import Derived.ChangeOld
import Derived.ChangeSame
import Derived.SizedLaws
import Derived.Deep.Slices
import Derived.Deep.Fields
import Derived.Lib.SmallJoins
import Derived.Test.YtbelbhdhcgpcpaaGreatDoorRows
import Derived.Test.YtbelbhdhcgpcpaaGreatDoorBuilder
import Derived.LaidMore
import Derived.Stop.Joined
import Derived.Test.YtbelbhdhcgpcpaaGreatDoorCards
import Derived.Test.YtbelbhdhcgpcpaaGreatDoorTie
import Derived.SevenTiedAt
namespace Go.Proofs.YtbelbhdhcgpcpaaGreatDoor.Gr
open Go.RowKit Go.Proofs.YtbelbhdhcgpcpaaGreatDoor.Base
set_option linter.unusedVariables false
set_option linter.unusedSimpArgs false

/-- The whole order. -/
def ordGo (g : Gr) : Nat → Nat → List Int → List Int
  | 0, _, o => o
  | f + 1, i, o => if h : i < o.length then ordGo g f (i + 1) (meet o (nodeAt g o[i]).slots).1 else o
def ordF (g : Gr) : List Int := ordGo g (g.nodes.length + 1) 0 (meet [] g.roots).1
def ndSize (x : Nd) : Nat := 1 + x.slots.length + x.words.length
theorem cells_eq (l : List Nd) : cells l = (l.map ndSize).sum := rfl

theorem meet1_mem (o : List Int) (a : Int) : (∀ b ∈ o, b ∈ (meet1 o a).1) ∧ (a ≠ 0 → a ∈ (meet1 o a).1) ∧ ∀ b ∈ (meet1 o a).1, b ∈ o ∨ (b = a ∧ a ≠ 0) := by
  unfold meet1
  by_cases h : a = 0
  · simp [h]
  · by_cases hm : a ∈ o
    · rw [if_neg h, if_pos hm]
      exact ⟨fun b hb => hb, fun _ => hm, fun b hb => .inl hb⟩
    · rw [if_neg h, if_neg hm]
      refine ⟨fun b hb => List.mem_append.2 (.inl hb), fun _ => List.mem_append.2 (.inr (by simp)), fun b hb => ?_⟩
      rcases List.mem_append.1 hb with hb | hb
      · exact .inl hb
      · simp at hb; exact .inr ⟨hb, h⟩
theorem meet_mem (o l : List Int) : (∀ b ∈ o, b ∈ (meet o l).1) ∧ (∀ a ∈ l, a ≠ 0 → a ∈ (meet o l).1) ∧ ∀ b ∈ (meet o l).1, b ∈ o ∨ (b ∈ l ∧ b ≠ 0) := by
  induction l generalizing o with
  | nil => exact ⟨fun b hb => hb, fun a ha => absurd ha (by simp), fun b hb => .inl hb⟩
  | cons a l ih =>
    obtain ⟨h1, h2, h3⟩ := ih (meet1 o a).1
    obtain ⟨k1, k2, k3⟩ := meet1_mem o a
    refine ⟨fun b hb => h1 b (k1 b hb), fun b hb hb0 => ?_, fun b hb => ?_⟩
    · rcases List.mem_cons.1 hb with rfl | hb
      · exact h1 _ (k2 hb0)
      · exact h2 b hb hb0
    · rcases h3 b hb with h | ⟨h, h0⟩
      · rcases k3 b h with h | ⟨rfl, h0⟩
        · exact .inl h
        · exact .inr ⟨List.mem_cons_self, h0⟩
      · exact .inr ⟨List.mem_cons_of_mem _ h, h0⟩
theorem meet_pre (o l : List Int) : ∃ t, (meet o l).1 = o ++ t := by
  induction l generalizing o with
  | nil => exact ⟨[], by simp [meet]⟩
  | cons a l ih =>
    obtain ⟨t, ht⟩ := ih (meet1 o a).1
    have : ∃ s, (meet1 o a).1 = o ++ s := by
      unfold meet1
      split
      · exact ⟨[], by simp⟩
      · split
        · exact ⟨[], by simp⟩
        · exact ⟨[a], rfl⟩
    obtain ⟨s, hs⟩ := this
    refine ⟨s ++ t, ?_⟩
    show (meet (meet1 o a).1 l).1 = _
    rw [ht, hs, List.append_assoc]

theorem ordGo_pre (g : Gr) : ∀ (f i : Nat) (o : List Int), ∃ t, ordGo g f i o = o ++ t := by
  intro f
  induction f with
  | zero => intro i o; exact ⟨[], by simp [ordGo]⟩
  | succ f ih =>
    intro i o
    rw [ordGo]
    split
    · rename_i h
      obtain ⟨t, ht⟩ := ih (i + 1) (meet o (nodeAt g o[i]).slots).1
      obtain ⟨s, hs⟩ := meet_pre o (nodeAt g o[i]).slots
      exact ⟨s ++ t, by rw [ht, hs, List.append_assoc]⟩
    · exact ⟨[], by simp⟩
theorem canonGo_split (g : Gr) : ∀ (f i : Nat) (o : List Int) (out : List Nd), canonGo g f i o out = out ++ canonGo g f i o [] := by
  intro f
  induction f with
  | zero => intro i o out; simp [canonGo]
  | succ f ih =>
    intro i o out
    rw [canonGo, canonGo]
    split
    · rw [ih _ _ (out ++ _), ih _ _ ([] ++ _)]
      simp
    · simp
/-- All names of a graph are there. -/
def wellG (g : Gr) : Prop := named g.roots g.nodes.length = true ∧ ∀ x ∈ g.nodes, ndOk x g.nodes.length = true
theorem well_right {g : Gr} (h : right g = true) : wellG g := ⟨(right_parts h).2.2.1, (right_parts h).2.2.2⟩
section
variable {g : Gr} (hg : wellG g)
include hg
theorem nodeAt_ok {a : Int} (h1 : 1 ≤ a) (h2 : a ≤ g.nodes.length) : ndOk (nodeAt g a) g.nodes.length = true := by
  rw [nodeAt_eq g a h1 h2]
  exact hg.2 _ (List.getElem_mem _)
theorem ordGo_all : ∀ (f i : Nat) (o : List Int), Ord o g.nodes.length → i ≤ o.length → g.nodes.length + 1 ≤ f + i →
    Ord (ordGo g f i o) g.nodes.length ∧ (∀ b ∈ (ordGo g f i o).drop i, ∀ a ∈ (nodeAt g b).slots, a ≠ 0 → a ∈ ordGo g f i o) ∧
    cells (canonGo g f i o []) = (((ordGo g f i o).drop i).map fun b => ndSize (nodeAt g b)).sum ∧ i + (canonGo g f i o []).length = (ordGo g f i o).length ∧
    ∀ C : Int → Prop, (∀ b ∈ o, C b) → (∀ b, C b → 1 ≤ b → b ≤ g.nodes.length → ∀ a ∈ (nodeAt g b).slots, a ≠ 0 → C a) → ∀ b ∈ ordGo g f i o, C b := by
  intro f
  induction f with
  | zero => intro i o ho hi hf; have := ord_len ho; omega
  | succ f ih =>
    intro i o ho hi hf
    by_cases hlt : i < o.length
    · have ha := ho.2 o[i] (List.getElem_mem hlt)
      have hx := nodeAt_ok hg ha.1 ha.2
      have ho' := ord_meet ho (ndOk_parts hx).2.2.2
      have hgr := meet_grow o (nodeAt g o[i]).slots
      obtain ⟨q1, q2, q3, q4, q5⟩ := ih (i + 1) _ ho' (by omega) (by omega)
      have e : ordGo g (f + 1) i o = ordGo g f (i + 1) (meet o (nodeAt g o[i]).slots).1 := by rw [ordGo, dif_pos hlt]
      obtain ⟨t, ht⟩ := ordGo_pre g f (i + 1) (meet o (nodeAt g o[i]).slots).1
      obtain ⟨s, hs⟩ := meet_pre o (nodeAt g o[i]).slots
      have hget : (ordGo g f (i + 1) (meet o (nodeAt g o[i]).slots).1).drop i = o[i] :: (ordGo g f (i + 1) (meet o (nodeAt g o[i]).slots).1).drop (i + 1) := by
        have hl : i < (ordGo g f (i + 1) (meet o (nodeAt g o[i]).slots).1).length := by rw [ht, hs]; simp; omega
        rw [List.drop_eq_getElem_cons hl]
        congr 1
        have e3 : (ordGo g f (i + 1) (meet o (nodeAt g o[i]).slots).1)[i]? = o[i]? := by
          rw [ht, hs, List.append_assoc, List.getElem?_append_left hlt]
        rw [List.getElem?_eq_getElem hl, List.getElem?_eq_getElem hlt] at e3
        exact Option.some.inj e3
      rw [e]
      refine ⟨q1, ?_, ?_, ?_, ?_⟩
      · rw [hget]
        intro b hb a hba h0
        rcases List.mem_cons.1 hb with rfl | hb
        · rw [ht]
          exact List.mem_append.2 (.inl ((meet_mem o _).2.1 a hba h0))
        · exact q2 b hb a hba h0
      · rw [hget, canonGo, dif_pos hlt, canonGo_split]
        simp only [List.nil_append, List.map_cons, List.sum_cons, ← q3]
        rw [cells_eq, cells_eq, List.map_append, List.sum_append, List.map_cons, List.map_nil, List.sum_cons, List.sum_nil]
        simp [ndSize, meet_len]
      · rw [canonGo, dif_pos hlt, canonGo_split]
        simp only [List.nil_append, List.length_append, List.length_cons, List.length_nil]
        omega
      · intro C hC hcl
        refine q5 C ?_ hcl
        intro b hb
        rcases (meet_mem o _).2.2 b hb with h | ⟨h, h0⟩
        · exact hC b h
        · exact hcl o[i] (hC _ (List.getElem_mem hlt)) ha.1 ha.2 b h h0
    · have e : ordGo g (f + 1) i o = o := by rw [ordGo, dif_neg hlt]
      have e2 : canonGo g (f + 1) i o [] = [] := by rw [canonGo, dif_neg hlt]
      have hd : o.drop i = [] := List.drop_eq_nil_of_le (by omega)
      rw [e, e2, hd]
      refine ⟨ho, fun b hb => (by cases hb), rfl, by simp; omega, fun C hC _ => hC⟩
theorem ordF_all : Ord (ordF g) g.nodes.length ∧ (∀ a ∈ g.roots, a ≠ 0 → a ∈ ordF g) ∧ (∀ b ∈ ordF g, ∀ a ∈ (nodeAt g b).slots, a ≠ 0 → a ∈ ordF g) ∧
    cells (number g).nodes = ((ordF g).map fun b => ndSize (nodeAt g b)).sum ∧ (number g).nodes.length = (ordF g).length ∧
    ∀ C : Int → Prop, (∀ a ∈ g.roots, a ≠ 0 → C a) → (∀ b, C b → 1 ≤ b → b ≤ g.nodes.length → ∀ a ∈ (nodeAt g b).slots, a ≠ 0 → C a) → ∀ b ∈ ordF g, C b := by
  obtain ⟨p3, p4⟩ := hg
  obtain ⟨q1, q2, q3, q4, q5⟩ := ordGo_all ⟨p3, p4⟩ (g.nodes.length + 1) 0 (meet [] g.roots).1 (ord_meet (ord_nil _) p3) (Nat.zero_le _) (by omega)
  obtain ⟨t, ht⟩ := ordGo_pre g (g.nodes.length + 1) 0 (meet [] g.roots).1
  rw [List.drop_zero] at q2 q3
  refine ⟨q1, fun a ha h0 => ?_, q2, q3, by rw [Nat.zero_add] at q4; exact q4, fun C hC hcl => q5 C (fun b hb => ?_) hcl⟩
  · unfold ordF
    rw [ht]
    exact List.mem_append.2 (.inl ((meet_mem [] g.roots).2.1 a ha h0))
  · rcases (meet_mem [] g.roots).2.2 b hb with h | ⟨h, h0⟩
    · cases h
    · exact hC b h h0
end

/-- Two lists without repetition that have the same members have the same sum. -/
theorem sum_same {α : Type} [DecidableEq α] (v : α → Nat) : ∀ {l m : List α}, l.Nodup → m.Nodup → (∀ a, a ∈ l ↔ a ∈ m) → (l.map v).sum = (m.map v).sum ∧ l.length = m.length
  | [], m, _, _, h => by
    have : m = [] := by
      cases m with
      | nil => rfl
      | cons b m => exact absurd ((h b).2 List.mem_cons_self) (by simp)
    subst this; exact ⟨rfl, rfl⟩
  | a :: l, m, hl, hm, h => by
    have ha : a ∈ m := (h a).1 List.mem_cons_self
    obtain ⟨s, t, rfl⟩ := List.append_of_mem ha
    have hl' := List.nodup_cons.1 hl
    have hm' : (s ++ t).Nodup ∧ a ∉ s ++ t := by
      have h1 := List.nodup_append.1 hm
      have h2 := List.nodup_cons.1 h1.2.1
      refine ⟨List.nodup_append.2 ⟨h1.1, h2.2, fun x hx y hy => h1.2.2 x hx y (List.mem_cons_of_mem _ hy)⟩, fun hc => ?_⟩
      rcases List.mem_append.1 hc with hc | hc
      · exact h1.2.2 a hc a List.mem_cons_self rfl
      · exact h2.1 hc
    obtain ⟨e1, e2⟩ := sum_same v hl'.2 hm'.1 (fun b => by
      have hb := h b
      simp only [List.mem_cons, List.mem_append] at hb ⊢
      by_cases e : b = a
      · subst e
        exact ⟨fun h' => absurd h' hl'.1, fun h' => absurd (List.mem_append.2 h') hm'.2⟩
      · constructor
        · intro h'
          rcases hb.1 (.inr h') with h2 | h2 | h2
          · exact .inl h2
          · exact absurd h2 e
          · exact .inr h2
        · intro h'
          rcases hb.2 (h'.elim .inl (fun h2 => .inr (.inr h2))) with h2 | h2
          · exact absurd h2 e
          · exact h2)
    simp only [List.map_cons, List.sum_cons, List.map_append, List.sum_append, List.length_cons, List.length_append] at e1 e2 ⊢
    omega

/-- A list without repetition whose members are all in another such list has no greater sum. -/
theorem sum_sub {α : Type} [DecidableEq α] (v : α → Nat) : ∀ {l m : List α}, l.Nodup → (∀ a ∈ l, a ∈ m) → (l.map v).sum ≤ (m.map v).sum ∧ l.length ≤ m.length
  | [], m, _, _ => ⟨Nat.zero_le _, Nat.zero_le _⟩
  | a :: l, m, hl, h => by
    have ha : a ∈ m := h a List.mem_cons_self
    obtain ⟨s, t, rfl⟩ := List.append_of_mem ha
    have hl' := List.nodup_cons.1 hl
    obtain ⟨e1, e2⟩ := sum_sub v (l := l) (m := s ++ t) hl'.2 (fun b hb => by
      have hb' := h b (List.mem_cons_of_mem _ hb)
      simp only [List.mem_append, List.mem_cons] at hb' ⊢
      rcases hb' with h1 | h1 | h1
      · exact .inl h1
      · subst h1; exact absurd hb hl'.1
      · exact .inr h1)
    simp only [List.map_cons, List.sum_cons, List.map_append, List.sum_append, List.length_cons, List.length_append] at e1 e2 ⊢
    omega
/-- From more roots no less is reached. -/
theorem reach_more {g h : Gr} (hg : wellG g) (hh : wellG h) (hn : h.nodes = g.nodes) (hr : ∀ a ∈ g.roots, a ≠ 0 → a ∈ h.roots) : cells (number g).nodes ≤ cells (number h).nodes := by
  obtain ⟨a1, a2, a3, a4, a5, a6⟩ := ordF_all hg
  obtain ⟨b1, b2, b3, b4, b5, b6⟩ := ordF_all hh
  have hnd : ∀ a, nodeAt h a = nodeAt g a := fun a => by unfold nodeAt; rw [hn]
  rw [a4, b4]
  have e : ((ordF h).map fun b => ndSize (nodeAt h b)).sum = ((ordF h).map fun b => ndSize (nodeAt g b)).sum := by
    congr 1
    apply List.map_congr_left
    intro b _
    rw [hnd]
  rw [e]
  refine (sum_sub _ a1.1 ?_).1
  exact a6 (fun b => b ∈ ordF h) (fun a ha h0 => b2 a (hr a ha h0) h0) (fun b hb _ _ a ha h0 => b3 b hb a (by rw [hnd]; exact ha) h0)

end Go.Proofs.YtbelbhdhcgpcpaaGreatDoor.Gr
namespace Go.Proofs.YtbelbhdhcgpcpaaGreatDoor.Iso
open Go.RowKit Go.Proofs.YtbelbhdhcgpcpaaGreatDoor.Base Go.Proofs.YtbelbhdhcgpcpaaGreatDoor.Gr
set_option linter.unusedVariables false
set_option linter.unusedSimpArgs false

def nd (g : Gr) (a : Int) : Nd := g.nodes.getD (a - 1).toNat ⟨[], []⟩
def Al (P : Int → Int → Prop) : List Int → List Int → Prop
  | [], [] => True
  | a :: l, b :: m => P a b ∧ Al P l m
  | _, _ => False
section
variable {P Q : Int → Int → Prop} {l m : List Int}
theorem Al.len : ∀ {l m : List Int}, Al P l m → l.length = m.length
  | [], [], _ => rfl
  | a :: l, b :: m, h => by simp [Al.len h.2]
  | [], b :: m, h => h.elim
  | a :: l, [], h => h.elim
theorem Al.snoc {a b : Int} (hab : P a b) : ∀ {l m : List Int}, Al P l m → Al P (l ++ [a]) (m ++ [b])
  | [], [], _ => ⟨hab, trivial⟩
  | x :: l, y :: m, h => ⟨h.1, Al.snoc hab h.2⟩
  | [], y :: m, h => h.elim
  | x :: l, [], h => h.elim
theorem Al.map (f : Int → Int) : ∀ {l : List Int}, (∀ a ∈ l, P a (f a)) → Al P l (l.map f)
  | [], _ => trivial
  | a :: l, h => ⟨h a List.mem_cons_self, Al.map f (fun b hb => h b (List.mem_cons_of_mem _ hb))⟩
end
/-- Two graphs that differ in their numbers alone, as far as they are reached: P tells which node is which. -/
structure Iso (P : Int → Int → Prop) (g h : Gr) : Prop where
  zero : P 0 0
  fn : ∀ {a b c}, P a b → P a c → b = c
  inj : ∀ {a b c}, P a c → P b c → a = b
  rng : ∀ {a b}, P a b → a ≠ 0 → 1 ≤ a ∧ a ≤ g.nodes.length ∧ 1 ≤ b ∧ b ≤ h.nodes.length
  slots : ∀ {a b}, P a b → a ≠ 0 → Al P (nd g a).slots (nd h b).slots
  words : ∀ {a b}, P a b → a ≠ 0 → (nd g a).words = (nd h b).words
  roots : Al P g.roots h.roots
section
variable {P : Int → Int → Prop} {g h : Gr}
theorem Iso.nz (I : Iso P g h) {a b : Int} (hab : P a b) : a = 0 ↔ b = 0 :=
  ⟨fun e => by subst e; exact I.fn hab I.zero, fun e => by subst e; exact I.inj hab I.zero⟩
theorem Iso.eq (I : Iso P g h) {a b c d : Int} (hab : P a b) (hcd : P c d) : a = c ↔ b = d :=
  ⟨fun e => by subst e; exact I.fn hab hcd, fun e => by subst e; exact I.inj hab hcd⟩
end
theorem nd_at {g : Gr} {a : Int} (h : 1 ≤ a) (h1 : a ≤ g.nodes.length) : nd g a = g.nodes[(a - 1).toNat]'(by omega) := by
  unfold nd
  rw [List.getD_eq_getElem?_getD, List.getElem?_eq_getElem (by omega)]
  rfl
theorem nd_nat {g : Gr} {j : Nat} (h : j < g.nodes.length) : nd g ((j : Int) + 1) = g.nodes[j] := by
  rw [nd_at (by omega) (by omega)]
  congr 1
  omega
theorem nd_nodeAt (g : Gr) {a : Int} (h : 1 ≤ a) : nd g a = nodeAt g a := by
  unfold nd nodeAt
  rw [show (a - 1).toNat = a.toNat - 1 by omega]
section
variable {P : Int → Int → Prop} {g h : Gr}
theorem Iso.mem (I : Iso P g h) : ∀ {o o' : List Int} {a b : Int}, Al P o o' → P a b → (a ∈ o ↔ b ∈ o') ∧ o.findIdx (· == a) = o'.findIdx (· == b)
  | [], [], a, b, _, hab => ⟨by simp, rfl⟩
  | x :: o, y :: o', a, b, hl, hab => by
    have hxy := I.eq hl.1 hab
    obtain ⟨m1, m2⟩ := Iso.mem I hl.2 hab
    constructor
    · simp only [List.mem_cons]
      rw [m1, show (a = x ↔ b = y) from ⟨fun e => (hxy.1 e.symm).symm, fun e => (hxy.2 e.symm).symm⟩]
    · rw [List.findIdx_cons, List.findIdx_cons, m2]
      have : (x == a) = (y == b) := by
        rw [Bool.eq_iff_iff]
        simp [hxy]
      rw [this]
  | [], y :: o', _, _, hl, _ => hl.elim
  | x :: o, [], _, _, hl, _ => hl.elim
theorem Iso.meet1 (I : Iso P g h) {o o' : List Int} {a b : Int} (hl : Al P o o') (hab : P a b) : (Gr.meet1 o a).2 = (Gr.meet1 o' b).2 ∧ Al P (Gr.meet1 o a).1 (Gr.meet1 o' b).1 := by
  obtain ⟨m1, m2⟩ := I.mem hl hab
  unfold Gr.meet1
  by_cases h0 : a = 0
  · rw [if_pos h0, if_pos ((I.nz hab).1 h0)]; exact ⟨rfl, hl⟩
  · rw [if_neg h0, if_neg (fun e => h0 ((I.nz hab).2 e))]
    by_cases hm : a ∈ o
    · rw [if_pos hm, if_pos (m1.1 hm)]
      refine ⟨?_, hl⟩
      unfold placeOf
      rw [if_pos hm, if_pos (m1.1 hm), m2]
    · rw [if_neg hm, if_neg (fun e => hm (m1.2 e))]
      exact ⟨by rw [hl.len], hl.snoc hab⟩
theorem Iso.meet (I : Iso P g h) : ∀ {l m o o' : List Int}, Al P o o' → Al P l m → (Gr.meet o l).2 = (Gr.meet o' m).2 ∧ Al P (Gr.meet o l).1 (Gr.meet o' m).1
  | [], [], o, o', hl, _ => ⟨rfl, hl⟩
  | a :: l, b :: m, o, o', hl, hs => by
    obtain ⟨e1, e2⟩ := I.meet1 hl hs.1
    obtain ⟨e3, e4⟩ := Iso.meet I e2 hs.2
    unfold Gr.meet
    exact ⟨by rw [e1, e3], e4⟩
  | [], b :: m, _, _, _, hs => hs.elim
  | a :: l, [], _, _, _, hs => hs.elim
theorem Al.atP : ∀ {l m : List Int}, Al P l m → ∀ i, (h1 : i < l.length) → (h2 : i < m.length) → P l[i] m[i]
  | a :: l, b :: m, h, 0, _, _ => h.1
  | a :: l, b :: m, h, i + 1, h1, h2 => Al.atP h.2 i (by simpa using h1) (by simpa using h2)
theorem Iso.canon (I : Iso P g h) (wg : wellG g) (wh : wellG h) : ∀ (f f' i : Nat) (o o' : List Int) (out : List Nd), Al P o o' → Ord o g.nodes.length → Ord o' h.nodes.length → g.nodes.length + 1 ≤ f + i → h.nodes.length + 1 ≤ f' + i →
    canonGo g f i o out = canonGo h f' i o' out := by
  intro f
  induction f with
  | zero =>
    intro f' i o o' out hl ho ho' hf hf'
    have h1 := ord_len ho
    have h2 := hl.len
    rw [canonGo_stop g 0 i o out (by omega), canonGo_stop h f' i o' out (by omega)]
  | succ f ih =>
    intro f' i o o' out hl ho ho' hf hf'
    have h2 := hl.len
    by_cases hlt : i < o.length
    · have hlt' : i < o'.length := by omega
      have h3 := ord_len ho'
      obtain ⟨f'', rfl⟩ : ∃ f'', f' = f'' + 1 := ⟨f' - 1, by omega⟩
      rw [canonGo_step g f i o out hlt, canonGo_step h f'' i o' out hlt']
      have hab := Al.atP hl i hlt hlt'
      have ra := ho.2 o[i] (List.getElem_mem hlt)
      have rb := ho'.2 o'[i] (List.getElem_mem hlt')
      have hs := I.slots hab (by omega)
      have hw := I.words hab (by omega)
      rw [nd_nodeAt g ra.1, nd_nodeAt h rb.1] at hs hw
      obtain ⟨e1, e2⟩ := I.meet hl hs
      rw [e1, hw]
      exact ih f'' (i + 1) _ _ _ e2 (ord_meet ho (ndOk_parts (nodeAt_ok wg ra.1 ra.2)).2.2.2) (ord_meet ho' (ndOk_parts (nodeAt_ok wh rb.1 rb.2)).2.2.2) (by omega) (by omega)
    · rw [canonGo_stop g _ i o out hlt, canonGo_stop h f' i o' out (by omega)]
/-- Their numbered forms are one. -/
theorem Iso.number (I : Iso P g h) (wg : wellG g) (wh : wellG h) : Gr.number g = Gr.number h := by
  obtain ⟨e1, e2⟩ := I.meet (o := []) (o' := []) trivial I.roots
  unfold Gr.number
  rw [e1, I.canon wg wh (g.nodes.length + 1) (h.nodes.length + 1) 0 _ _ [] e2 (ord_meet (ord_nil _) wg.1) (ord_meet (ord_nil _) wh.1) (by omega) (by omega)]
end

/-! ### a graph and its numbered form -/
theorem place_more {o : List Int} (t : List Int) {a : Int} (h : a ∈ o) : placeOf (o ++ t) a = placeOf o a := by
  unfold placeOf
  rw [if_pos h, if_pos (List.mem_append.2 (.inl h)), List.findIdx_append, if_pos (List.findIdx_lt_length_of_exists ⟨a, h, by simp⟩)]
theorem meet_place : ∀ (l o t : List Int), 0 ∉ (meet o l).1 ++ t → (∀ a ∈ o, a ≠ 0) → (meet o l).2 = l.map (placeOf ((meet o l).1 ++ t))
  | [], o, t, _, _ => rfl
  | a :: l, o, t, h0, ho => by
    have ho' : ∀ b ∈ (meet1 o a).1, b ≠ 0 := by
      intro b hb
      rcases (meet1_mem o a).2.2 b hb with h | ⟨h, hz⟩
      · exact ho b h
      · subst h; exact hz
    have ih := meet_place l (meet1 o a).1 t h0 ho'
    show (meet1 o a).2 :: (meet (meet1 o a).1 l).2 = placeOf ((meet (meet1 o a).1 l).1 ++ t) a :: l.map (placeOf ((meet (meet1 o a).1 l).1 ++ t))
    rw [ih]
    congr 1
    obtain ⟨s, hs⟩ := meet_pre (meet1 o a).1 l
    by_cases hz : a = 0
    · subst hz
      have e : placeOf ((meet (meet1 o 0).1 l).1 ++ t) 0 = 0 := placeOf_zero.2 h0
      rw [e]
      simp [meet1]
    · have hm : a ∈ (meet1 o a).1 := (meet1_mem o a).2.1 hz
      rw [hs, List.append_assoc, place_more _ hm]
      unfold meet1
      rw [if_neg hz]
      by_cases hin : a ∈ o
      · rw [if_pos hin]
      · rw [if_neg hin]
        show _ = placeOf (o ++ [a]) a
        rw [placeOf_snoc hin, if_pos rfl]
section
variable {g : Gr} (hg : wellG g)
include hg
theorem canon_nodes : ∀ (f i : Nat) (o : List Int), Ord o g.nodes.length → i ≤ o.length → g.nodes.length + 1 ≤ f + i →
    canonGo g f i o [] = ((ordGo g f i o).drop i).map fun b => (⟨(nodeAt g b).slots.map (placeOf (ordGo g f i o)), (nodeAt g b).words⟩ : Nd) := by
  intro f
  induction f with
  | zero => intro i o ho hi hf; have := ord_len ho; omega
  | succ f ih =>
    intro i o ho hi hf
    by_cases hlt : i < o.length
    · have ha := ho.2 o[i] (List.getElem_mem hlt)
      have hx := nodeAt_ok hg ha.1 ha.2
      have ho' := ord_meet ho (ndOk_parts hx).2.2.2
      have hgr := meet_grow o (nodeAt g o[i]).slots
      have q := ih (i + 1) _ ho' (by omega) (by omega)
      have hall := ordGo_all hg f (i + 1) _ ho' (by omega) (by omega)
      have e : ordGo g (f + 1) i o = ordGo g f (i + 1) (meet o (nodeAt g o[i]).slots).1 := by rw [ordGo, dif_pos hlt]
      obtain ⟨t, ht⟩ := ordGo_pre g f (i + 1) (meet o (nodeAt g o[i]).slots).1
      obtain ⟨s, hs⟩ := meet_pre o (nodeAt g o[i]).slots
      have hget : (ordGo g f (i + 1) (meet o (nodeAt g o[i]).slots).1).drop i = o[i] :: (ordGo g f (i + 1) (meet o (nodeAt g o[i]).slots).1).drop (i + 1) := by
        have hl : i < (ordGo g f (i + 1) (meet o (nodeAt g o[i]).slots).1).length := by rw [ht, hs]; simp; omega
        rw [List.drop_eq_getElem_cons hl]
        congr 1
        have e3 : (ordGo g f (i + 1) (meet o (nodeAt g o[i]).slots).1)[i]? = o[i]? := by
          rw [ht, hs, List.append_assoc, List.getElem?_append_left hlt]
        rw [List.getElem?_eq_getElem hl, List.getElem?_eq_getElem hlt] at e3
        exact Option.some.inj e3
      have hz : (0 : Int) ∉ ordGo g f (i + 1) (meet o (nodeAt g o[i]).slots).1 := fun h => by have := hall.1.2 0 h; omega
      have hm := meet_place (nodeAt g o[i]).slots o t (by rw [← ht]; exact hz) (fun a ha => by have := ho.2 a ha; omega)
      rw [← ht] at hm
      rw [e, hget, canonGo, dif_pos hlt, canonGo_split, q, List.map_cons, hm]
      rfl
    · have e : ordGo g (f + 1) i o = o := by rw [ordGo, dif_neg hlt]
      have e2 : canonGo g (f + 1) i o [] = [] := by rw [canonGo, dif_neg hlt]
      have hd : o.drop i = [] := List.drop_eq_nil_of_le (by omega)
      rw [e, e2, hd]
      rfl
/-- Which node of the numbered form a node is. -/
def Init (g : Gr) (a b : Int) : Prop := (a = 0 ∧ b = 0) ∨ (a ∈ ordF g ∧ b = placeOf (ordF g) a)
theorem init_iso : Iso (Init g) g (number g) := by
  obtain ⟨a1, a2, a3, a4, a5, a6⟩ := ordF_all hg
  have hz : (0 : Int) ∉ ordF g := fun h => by have := a1.2 0 h; omega
  have hnodes := canon_nodes hg (g.nodes.length + 1) 0 (meet [] g.roots).1 (ord_meet (ord_nil _) hg.1) (Nat.zero_le _) (by omega)
  rw [List.drop_zero] at hnodes
  have hidx : ∀ {a : Int}, a ∈ ordF g → (ordF g).findIdx (· == a) < (ordF g).length := fun {a} h => List.findIdx_lt_length_of_exists ⟨a, h, by simp⟩
  have hat : ∀ {a : Int} (h : a ∈ ordF g), (ordF g)[(ordF g).findIdx (· == a)]'(hidx h) = a := fun {a} h => by
    have := List.findIdx_getElem (p := (· == a)) (xs := ordF g) (w := hidx h)
    simpa using this
  have hpl : ∀ {a : Int}, a ∈ ordF g → placeOf (ordF g) a = ((ordF g).findIdx (· == a) : Int) + 1 := fun {a} h => by unfold placeOf; rw [if_pos h]
  have hnd : ∀ {a : Int}, a ∈ ordF g → nd (number g) (placeOf (ordF g) a) = ⟨(nodeAt g a).slots.map (placeOf (ordF g)), (nodeAt g a).words⟩ := fun {a} h => by
    rw [hpl h]
    have hl : (ordF g).findIdx (· == a) < (number g).nodes.length := by rw [a5]; exact hidx h
    rw [nd_nat hl]
    have e : (number g).nodes = (ordF g).map fun b => (⟨(nodeAt g b).slots.map (placeOf (ordF g)), (nodeAt g b).words⟩ : Nd) := hnodes
    simp only [e, List.getElem_map, hat h]
  have hin : ∀ {v : Int}, (v ≠ 0 → v ∈ ordF g) → Init g v (placeOf (ordF g) v) := fun {v} h => by
    by_cases h0 : v = 0
    · subst h0; exact .inl ⟨rfl, placeOf_zero.2 hz⟩
    · exact .inr ⟨h h0, rfl⟩
  refine ⟨.inl ⟨rfl, rfl⟩, ?_, ?_, ?_, ?_, ?_, ?_⟩
  · rintro a b c (⟨h1, h2⟩ | ⟨h1, h2⟩) (⟨h3, h4⟩ | ⟨h3, h4⟩)
    · omega
    · subst h1; exact absurd h3 hz
    · subst h3; exact absurd h1 hz
    · omega
  · rintro a b c (⟨h1, h2⟩ | ⟨h1, h2⟩) (⟨h3, h4⟩ | ⟨h3, h4⟩)
    · omega
    · rw [hpl h3] at h4; omega
    · rw [hpl h1] at h2; omega
    · rw [hpl h1] at h2
      rw [hpl h3] at h4
      have e : (ordF g).findIdx (· == a) = (ordF g).findIdx (· == b) := by omega
      have h5 := hat h1
      have h6 := hat h3
      simp only [e] at h5
      exact h5.symm.trans h6
  · rintro a b (⟨h1, h2⟩ | ⟨h1, h2⟩) h0
    · exact absurd h1 h0
    · have := a1.2 a h1
      have h3 := hidx h1
      rw [hpl h1] at h2
      rw [← a5] at h3
      omega
  · rintro a b (⟨h1, h2⟩ | ⟨h1, h2⟩) h0
    · exact absurd h1 h0
    · subst h2
      rw [hnd h1, nd_nodeAt g (a1.2 a h1).1]
      exact Al.map _ (fun v hv => hin (fun h => a3 a h1 v hv h))
  · rintro a b (⟨h1, h2⟩ | ⟨h1, h2⟩) h0
    · exact absurd h1 h0
    · subst h2
      rw [hnd h1, nd_nodeAt g (a1.2 a h1).1]
  · have hr : (number g).roots = g.roots.map (placeOf (ordF g)) := by
      obtain ⟨t, ht⟩ := ordGo_pre g (g.nodes.length + 1) 0 (meet [] g.roots).1
      have := meet_place g.roots [] t (by rw [← ht]; exact hz) (fun a h => by cases h)
      rw [← ht] at this
      exact this
    rw [hr]
    exact Al.map _ (fun v hv => hin (fun h => a2 v hv h))
end
theorem number_twice {g : Gr} (hg : right g = true) : number (number g) = number g := ((init_iso (well_right hg)).number (well_right hg) (well_right (number_right hg))).symm
theorem canon_twice {g : Gr} (hg : right g = true) : canon (canon g) = canon g := by
  rw [canon_right hg, canon_right (number_right hg), number_twice hg]
end Go.Proofs.YtbelbhdhcgpcpaaGreatDoor.Iso
namespace Go.Proofs.YtbelbhdhcgpcpaaGreatDoor.BkNodes
open Go.RowKit Go.Proofs.YtbelbhdhcgpcpaaGreatDoor.Base Go.Proofs.YtbelbhdhcgpcpaaGreatDoor.Bk Go.Proofs.YtbelbhdhcgpcpaaGreatDoor.Gr Go.Proofs.YtbelbhdhcgpcpaaGreatDoor.Str
set_option linter.unusedVariables false
set_option linter.unusedSimpArgs false

/-- What the book holds of k graphs. -/
structure KOK (K : Kept) (k : Nat) : Prop where
  i : K.vI.length = k
  n : K.vN.length = k
  li : ∀ i, (K.cI i).length ≤ 90000
  ln : ∀ i, (K.cN i).length ≤ 90000
  d : ∀ i, ∀ x ∈ K.d i, x.slots.length ≤ 100000 ∧ x.words.length ≤ 100000
theorem KOK.nil : KOK keptNil 0 := ⟨rfl, rfl, fun i => by simp [keptNil], fun i => by simp [keptNil], fun i x hx => by simp [keptNil] at hx⟩
theorem book_graph {w0 w : World} {X k lo : Nat} {K : Kept} {A D : Option Addr} {a d : Nat} {ps : List NC} {x : Gr} (h : BookG w0 w X K) (hk : KOK K k) (hk2 : k < 250) (hd : DeepG w lo A a D d ps x) (hlo : ∀ b, InG K.vI K.vN b → b < lo) (hw0 : w0.heap.size ≤ lo) (hr : x.roots.length ≤ 90000 ∧ x.nodes.length ≤ 90000) (hx : ∀ y ∈ x.nodes, y.slots.length ≤ 100000 ∧ y.words.length ≤ 100000) :
    Calls Tryz.prog 12 #[.pointer (some ⟨X, 0, none⟩), .agg #[.slice A x.roots.length a, .slice D x.nodes.length d]] w fun e w' => e = .returned (.tuple #[]) ∧ (∃ K', BookG w0 w' X K' ∧ KOK K' (k + 1)) ∧ Kind w w' := by
  obtain ⟨o1, o2, o3⟩ := hd
  have hpl : x.nodes.length = ps.length := o3.1.symm
  rw [hpl] at o2 ⊢
  have b1 := fun b hb => (own_block o1 b hb).1
  have b2 := fun b hb => (own_block o2 b hb).1
  refine (graph_add h A D a d x.roots ps x.nodes (o3.low (Nat.zero_le _)) hx (own_lower o1 (Nat.zero_le _)) (own_lower o2 (Nat.zero_le _)) (fun b hb hi => by have := b1 b hb; have := hlo b hi; omega) (fun b hb hi => by have := b2 b hb; have := hlo b hi; omega) (fun b hb => Nat.le_trans hw0 (b1 b hb)) (fun b hb => Nat.le_trans hw0 (b2 b hb)) (by omega) (by omega) (by rw [hk.i]; exact hk2) (by rw [hk.n]; exact hk2)).mono ?_
  rintro e w' ⟨rfl, hb, hkd⟩
  refine ⟨rfl, ⟨_, hb, ⟨?_, ?_, fun i => ?_, fun i => ?_, fun i y hy => ?_⟩⟩, hkd⟩
  · simp [Kept.graph, hk.i]
  · simp [Kept.graph, hk.n]
  · simp only [Kept.graph, BkInts.more]
    split
    · exact hr.1
    · exact hk.li i
  · simp only [Kept.graph, more]
    split
    · omega
    · exact hk.ln i
  · simp only [Kept.graph, moreD] at hy
    split at hy
    · exact hx y hy
    · exact hk.d i y hy
/-- A graph by value that stays whatever the book's block becomes. -/
def Steady (X : Nat) (w : World) (v : Value) (k : Gr) : Prop := ∀ w', Mod (fun b => b = X) w w' → GrV w' v k
theorem Steady.mod {X : Nat} {w w' : World} {v : Value} {k : Gr} (h : Steady X w v k) (hm : Mod (fun b => b = X) w w') : Steady X w' v k := fun w'' hm' => h w'' (Mod.trans hm hm' (fun _ _ h => h))
theorem Steady.below {X : Nat} {w w' : World} {v : Value} {k : Gr} (h : Steady X w v k) (hb : Below w.heap.size w w') : Steady X w' v k := h.mod (Mod.of_below hb)
theorem Steady.of_firm {X B : Nat} {w : World} {v : Value} {k : Gr} (h : Firm B w v k) (hX : X < B) : Steady X w v k := fun w' hm => h _ w' hm (by rintro b rfl; exact hX)
theorem Steady.of_old {X : Nat} {w0 w : World} {v : Value} {k : Gr} (h : GrV w0 v k) (hb : Below w0.heap.size w0 w) (hX : w0.heap.size ≤ X) : Steady X w v k := fun w' hm => h.below (Gr.mod_below hb hm hb.size (by rintro b hb' rfl; omega))
theorem LentI.ints {w : World} {lo : Nat} {B : Option Addr} {l : List Int} {m : Nat} (h : LentI w lo B l m) (hl : l.length ≤ 100000) : Ints w B l := by
  refine ⟨?_, by omega⟩
  have hr := Reads.of_own h.2
  have h2 : Arr w ic 1 B (l ++ [-77]) := by
    show Reads w 1 B (l ++ [(-77 : Int)]).length _
    simp only [List.length_append, List.length_singleton]
    exact hr
  exact arr_pre ic_len h2
theorem LentN.nodes {w : World} {lo : Nat} {B : Option Addr} {xs : List Nd} {m : Nat} (h : LentN w lo B xs m) (hl : xs.length ≤ 100000) : Nodes w B xs := by
  obtain ⟨ps, b, k, v, hc, ho, hd⟩ := h
  have hpl : ps.length = xs.length := hd.1
  have hR : Arr w nf 2 B (ps ++ [(.slice b 1 k, v)]) := by
    have h := Reads.of_own ho
    show Reads w 2 B (ps ++ [((Value.slice b 1 k, v) : NC)]).length _
    simp only [List.length_append, List.length_singleton, hpl]
    exact h
  exact nodes_of (arr_pre nf_len hR) hd hl

set_option maxRecDepth 100000 in
set_option maxHeartbeats 16000000 in
theorem tells_walk (A B : Option Addr) (g : Gr) (a b : Nat) (C D : Option Addr) (h : Gr) (c d : Nat) (raw : Bool) (w : World) (ht : Tab w) (hA : Ints w A g.roots) (hB : Nodes w B g.nodes) (hC : Ints w C h.roots) (hD : Nodes w D h.nodes) :
    Calls Tryz.prog 3 #[.agg #[.slice A g.roots.length a, .slice B g.nodes.length b], .agg #[.slice C h.roots.length c, .slice D h.nodes.length d], .bool raw] w fun e w' => e = .returned (.bool true) ∧ Below w.heap.size w w' := by
  have HT := Lib.hid ht
  have HA := Lib.hid hA
  have HB := Lib.hid hB
  have HC := Lib.hid hC
  have HD := Lib.hid hD
  have hb0 := box_zero w #[.slice A g.roots.length a, .slice B g.nodes.length b] 25 (.cells #[.slice C h.roots.length c, .slice D h.nodes.length d] 25)
  have HX := Lib.hid (Duo.mk (Boxes.new w (.slice A g.roots.length a) (.slice B g.nodes.length b) (.slice C h.roots.length c) (.slice D h.nodes.length d)) hb0 (ht.below hb0))
  clear hA hB hC hD ht hb0
  obtain ⟨⟨x1, x2, x3, x4⟩, -, -, -⟩ := HX.out.boxes.seen
  go_enter Tryz.func3, Tryz.ntmps3
  go_wp2_with fail
  refine (light_any A B g a b _ (HA.out.below HX.out.low) (HB.out.below HX.out.low)).mono ?_
  rintro e w1 ⟨⟨b1, rfl, hs1⟩, hb⟩
  have HX1 := Lib.hid (HX.out.below hb)
  have HS1 := Lib.hid hs1
  clear hb hs1 x1 x2 x3 x4
  obtain ⟨⟨x1, x2, x3, x4⟩, -, -, -⟩ := HX1.out.boxes.seen
  cases b1
  · go_wp2_with fail
    refine (alive_any w1 HX1.out.tab).mono ?_
    rintro e w2 ⟨rfl, hb⟩
    have HX2 := Lib.hid (HX1.out.below hb)
    clear hb
    go_wp2_with fail
    go_ret
    exact ⟨rfl, HX2.out.low⟩
  go_wp2_with fail
  refine (light_any C D h c d _ (HC.out.below HX1.out.low) (HD.out.below HX1.out.low)).mono ?_
  rintro e w2 ⟨⟨b2, rfl, hs2⟩, hb⟩
  have HX2 := Lib.hid (HX1.out.below hb)
  have HS2 := Lib.hid hs2
  clear hb hs2 x1 x2 x3 x4
  obtain ⟨⟨x1, x2, x3, x4⟩, -, -, -⟩ := HX2.out.boxes.seen
  cases b2
  · go_wp2_with fail
    refine (alive_any w2 HX2.out.tab).mono ?_
    rintro e w3 ⟨rfl, hb⟩
    have HX3 := Lib.hid (HX2.out.below hb)
    clear hb
    go_wp2_with fail
    go_ret
    exact ⟨rfl, HX3.out.low⟩
  go_wp2_with fail
  refine (alive_any w2 HX2.out.tab).mono ?_
  rintro e w3 ⟨rfl, hb⟩
  have HX3 := Lib.hid (HX2.out.below hb)
  clear hb x1 x2 x3 x4
  obtain ⟨⟨x1, x2, x3, x4⟩, ⟨f1, f2, f3, f4⟩, z1, z2⟩ := HX3.out.boxes.seen
  go_upto_if 31 with fail
  go_cut [] (fun wx => GT1 w wx)
  case first =>
    cases raw
    · go_wp2_with fail
      go_region_law (first
        | ((try go_simp)
           go_at_call 6
           revert HD4; intro HD4
           refine (duo_eight C D h c d (HS2.out trivial) HC.out HD.out (w1 := w4) ?_ HD4.out).mono ?_
           (first | exact like_self _ | exact like_drew (like_self _) | exact like_drew (like_drew (like_self _)) | exact like_drew (like_drew (like_drew (like_self _))))
           rintro e w5 ⟨A5, a5, D5, d5, rfl, ⟨⟨q1, q2, q3, q4⟩, ⟨t1, t2, t3, t4⟩, t5, t6⟩, HD5, HF5, HL5⟩)
        | ((try go_simp)
           go_at_call 6
           refine (duo_eight A B g a b (HS1.out trivial) HA.out HB.out (w1 := w3) ?_ HX3.out).mono ?_
           (first | exact like_self _ | exact like_drew (like_self _) | exact like_drew (like_drew (like_self _)) | exact like_drew (like_drew (like_drew (like_self _))))
           rintro e w4 ⟨A4, a4, D4, d4, rfl, ⟨⟨y1, y2, y3, y4⟩, ⟨s1, s2, s3, s4⟩, s5, s6⟩, HD4, HF4, HL4⟩))
      all_goals
        go_wp2_with fail
        go_meet
        obtain ⟨k1, k2, k3⟩ := duo_store HD5.out rfl HT.out (HF4.out.below HL5.out) HF5.out (like_self _)
        exact ⟨A4, D4, A5, D5, a4, d4, a5, d5, eight g, eight h, ⟨k1, (duo_form k2).1, (duo_form k2).2, (duo_form k3).1, (duo_form k3).2⟩, small_eight (HS1.out trivial), small_eight (HS2.out trivial)⟩
    · go_wp2_with fail
      go_meet
      exact ⟨A, B, C, D, a, b, c, d, g, h, ⟨HX3.out, HA.out.below HX3.out.low, HB.out.below HX3.out.low, HC.out.below HX3.out.low, HD.out.below HX3.out.low⟩, HS1.out trivial, HS2.out trivial⟩
  case rest =>
    obtain ⟨A', B', C', D', a', b', c', d', g', h', H1, hs1, hs2⟩ := hcut
    clear HX1 HX2 HX3 HS1 HS2 HX x1 x2 x3 x4 f1 f2 f3 f4 z1 z2 HA HB HC HD
    go_upto_region 5 with fail
    refine r5 A' B' C' D' a' b' c' d' g' h' w _ _ _ _ _ _ _ _ _ _ _ _ _ _ _ _ _ _ _ _ _ _ _ _ _ _ _ _ _ _ _ _ _ _ _ _ _ _ _ _ _ _ _ _ _ _ _ _ _ _ _ _ _ _ _ _ _ _ _ _ _ _ _ _ _ _ _ _ _ _ _ _ _ _ _ _ _ _ _ _ _ _ _ _ _ _ _ _ _ _ _ _ _ _ _ _ _ _ _ _ _ _ _ _ _ _ _ _ _ _ _ _ _ _ _ _ _ _ _ _ _ _ _ _ _ _ _ _ _ _ _ _ _ _ _ wc H1 hs1 hs2 ?_
    intro t36 t37 t38 t39 q r w5 hG
    dsimp only
    clear H1 hs1 hs2 A' B' C' D' a' b' c' d' g' h'
    obtain ⟨A', B', C', D', a', b', c', d', g', h', H, ⟨hs1, hs2⟩, ⟨⟨M, N, m, n, bq, i1, n1⟩, ⟨M2, N2, m2, n2, br, i2, n2'⟩⟩⟩ := hG
    have HSS := Lib.hid (And.intro hs1 hs2)
    have hp := H.duo.low
    have HH := Lib.hid H
    have Q := Lib.hid (show ∀ W, Below w5.heap.size w5 W → (Cells4 W w.heap.size A' B' C' D' a' b' c' d' g' h' ∧ w.heap.size < W.heap.size ∧ w.heap.size + 1 < W.heap.size) ∧ (W.cell? ⟨q, 0, none⟩ = some (.slice M g'.roots.length m) ∧ W.cell? ⟨q, 1, none⟩ = some (.slice N g'.nodes.length n) ∧ W.cell? ⟨r, 0, none⟩ = some (.slice M2 h'.roots.length m2) ∧ W.cell? ⟨r, 1, none⟩ = some (.slice N2 h'.nodes.length n2)) ∧ q < W.heap.size ∧ r < W.heap.size from fun W hb =>
      ⟨⟨(H.below hb).cells, (H.below hb).duo.boxes.1.lt, (H.below hb).duo.boxes.2.lt⟩, ⟨(bq.below hb bq.lt).cell 0, (bq.below hb bq.lt).cell 1, (br.below hb br.lt).cell 0, (br.below hb br.lt).cell 1⟩, (bq.below hb bq.lt).lt, (br.below hb br.lt).lt⟩)
    have KR1 := Lib.hid (fun (W : World) (hb : Below w5.heap.size w5 W) => rright_any A' B' g' a' b' W (H.g1.below hb) (H.g2.below hb))
    have KR2 := Lib.hid (fun (W : World) (hb : Below w5.heap.size w5 W) => rright_any C' D' h' c' d' W (H.h1.below hb) (H.h2.below hb))
    have KM := Lib.hid (show ∀ W, Below w5.heap.size w5 W → Ints W M g'.roots ∧ Nodes W N g'.nodes from fun W hb => ⟨(i1.below hb).ints (small_room hs1).1, (n1.below hb).nodes (small_room hs1).2.1⟩)
    have KN := Lib.hid (show ∀ W, Below w5.heap.size w5 W → Ints W M2 h'.roots ∧ Nodes W N2 h'.nodes from fun W hb => ⟨(i2.below hb).ints (small_room hs2).1, (n2'.below hb).nodes (small_room hs2).2.1⟩)
    have KL1 := Lib.hid (show ∀ W, Below w5.heap.size w5 W → LentI W 0 M g'.roots m ∧ LentN W 0 N g'.nodes n from fun W hb => ⟨i1.below hb, n1.below hb⟩)
    have KL2 := Lib.hid (show ∀ W, Below w5.heap.size w5 W → LentI W 0 M2 h'.roots m2 ∧ LentN W 0 N2 h'.nodes n2 from fun W hb => ⟨i2.below hb, n2'.below hb⟩)
    obtain ⟨ok, hok⟩ : ∃ ok, right g' = ok := ⟨_, rfl⟩
    obtain ⟨is, his⟩ : ∃ is, right h' = is := ⟨_, rfl⟩
    have HOK := Lib.hid hok
    have HIS := Lib.hid his
    have HBK := Lib.hid (Blk.new w5 37 bookNil)
    have hB6 := belA (Below.refl w5.heap.size w5) (.cells bookNil 37)
    have HB6 := Lib.hid hB6
    obtain ⟨⟨⟨x1, x2, x3, x4⟩, z1, z2⟩, ⟨y1, y2, y3, y4⟩, z3, z4⟩ := Q.out _ (Below.refl _ _)
    clear H hs1 hs2 bq br i1 i2 n1 n2' hok his hB6 hp
    unfold bookNil at HBK HB6
    go_upto_region 7 with fail
    go_cut [10, 11] (fun u10 u11 wx => u10 = .bool ok ∧ u11 = .bool is ∧ Below w5.heap.size w5 wx ∧ Blk wx w5.heap.size 37 bookNil)
    case first =>
      obtain ⟨⟨⟨x1, x2, x3, x4⟩, z1, z2⟩, ⟨y1, y2, y3, y4⟩, z3, z4⟩ := Q.out _ HB6.out
      go_region_held3 (fun W => (W.cell? ⟨w.heap.size, 0, none⟩ = some (.slice A' g'.roots.length a') ∧ W.cell? ⟨w.heap.size, 1, none⟩ = some (.slice B' g'.nodes.length b') ∧ W.cell? ⟨w.heap.size + 1, 0, none⟩ = some (.slice C' h'.roots.length c') ∧ W.cell? ⟨w.heap.size + 1, 1, none⟩ = some (.slice D' h'.nodes.length d')) ∧ Below w5.heap.size w5 W ∧ Blk W w5.heap.size 37 bookNil)
        (first
          | exact ⟨hS, hD, hX⟩
          | exact ⟨⟨x1, x2, x3, x4⟩, HB6.out.drew, blkD HBK.out⟩
          | go_keep)
        (first
          | (go_at_call 8
             revert h1
             intro h1
             refine (KR2.out _ hD).mono ?_
             rw [HIS.out]
             rintro e w7 ⟨rfl, hb⟩
             have hX := blk_on hX hb
             have hD := hD.trans (hb.mono hD.size)
             have hS := (Q.out _ hD).1.1)
          | (go_at_call 8
             refine (KR1.out _ HB6.out.drew).mono ?_
             rw [HOK.out]
             rintro e w7 ⟨rfl, hb⟩
             have hX := blk_on (blkD HBK.out) hb
             have hD := HB6.out.drew.trans (hb.mono HB6.out.drew.size)
             have hS := (Q.out _ hD).1.1
             have h1 := True.intro))
      all_goals
        go_wp2_with fail
        go_meet
        exact ⟨rfl, rfl, hD, hX⟩
    case rest =>
      obtain ⟨w7, hw7⟩ : ∃ w7, w7 = wc := ⟨_, rfl⟩
      subst hw7
      obtain ⟨rfl, rfl, hb7, hx7⟩ := hcut
      clear HB6 HBK x1 x2 x3 x4 y1 y2 y3 y4 z1 z2 z3 z4
      have HB7 := Lib.hid hb7
      have hX5 := hx7.lt
      have HX7 := Lib.hid hx7
      obtain ⟨⟨⟨x1, x2, x3, x4⟩, z1, z2⟩, ⟨y1, y2, y3, y4⟩, z3, z4⟩ := Q.out _ hb7
      have HY8 := Lib.hid (Blk.new w7 25 #[.slice A' g'.roots.length a', .slice B' g'.nodes.length b'])
      have HB8 := Lib.hid (belA (Below.refl w7.heap.size w7) (.cells #[.slice A' g'.roots.length a', .slice B' g'.nodes.length b'] 25))
      have HB58 := Lib.hid (hb7.trans (HB8.out.mono hb7.size))
      have KC := Lib.hid (show ok = true → ∀ (W : World), Below w5.heap.size w5 W → Calls Tryz.prog 9 #[.agg #[.slice A' g'.roots.length a', .slice B' g'.nodes.length b'], .slice none 0 0] W fun e w' => ∃ A1 a1 B1 b1, e = .returned (.agg #[.slice A1 (canon g').roots.length a1, .slice B1 (canon g').nodes.length b1]) ∧ Firm W.heap.size w' (.agg #[.slice A1 (canon g').roots.length a1, .slice B1 (canon g').nodes.length b1]) (canon g') ∧ Below W.heap.size W w' from fun he W hb => by
        have hr : right g' = true := HOK.out.trans he
        obtain ⟨h1, h2, h3, h4⟩ := right_parts hr
        have k := refcanon_firm A' B' g' a' b' W (HH.out.below hb).g1 (HH.out.below hb).g2 h3 (by omega) (by omega) h4
        rw [← canon_right hr] at k
        exact k)
      have KZ := Lib.hid (show ok = true → ∀ (W : World) (v : Value) (B1 : Option Addr) (b1 : Nat), Nodes W B1 (canon g').nodes → Calls Tryz.prog 10 #[.agg #[v, .slice B1 (canon g').nodes.length b1]] W fun e w' => e = .returned (.int .i64 (size g')) ∧ Below W.heap.size W w' from fun he W v B1 b1 hn => by
        have hr : right g' = true := HOK.out.trans he
        have hrc : right (canon g') = true := by rw [canon_right hr]; exact number_right hr
        obtain ⟨h1, h2, h3, h4⟩ := right_parts hrc
        have e : size g' = cells (canon g').nodes := by simp [size, hr]
        rw [e]
        exact rsize_any v B1 _ b1 W hn (by omega) (fun x hx => by have := ndOk_parts (h4 x hx); omega))
      have HNO := Lib.hid (show ok = false → canon g' = g' ∧ size g' = 0 from fun he => by
        have hr : right g' = false := HOK.out.trans he
        exact ⟨by simp [Gr.canon, hr], by simp [size, hr]⟩)
      clear hb7 hx7
      go_upto_if 47 with fail
      go_cut [13] (fun u13 wx => ∃ A1 a1 B1 b1, u13 = .int .i64 (size g') ∧ Blk wx w7.heap.size 25 #[.slice A1 (canon g').roots.length a1, .slice B1 (canon g').nodes.length b1] ∧ Steady w5.heap.size wx (.agg #[.slice A1 (canon g').roots.length a1, .slice B1 (canon g').nodes.length b1]) (canon g') ∧ Below w7.heap.size w7 wx)
      case first =>
        cases ok
        · obtain ⟨e1, e2⟩ := HNO.out rfl
          have HV := Lib.hid (show Steady w5.heap.size _ (.agg #[.slice A' g'.roots.length a', .slice B' g'.nodes.length b']) g' from Steady.of_old ⟨A', a', B', b', rfl, HH.out.g1, HH.out.g2⟩ HB58.out (Nat.le_refl _))
          go_wp2_with fail
          go_meet
          rw [e1, e2]
          exact ⟨A', a', B', b', rfl, HY8.out, HV.out, HB8.out⟩
        · have KC1 := Lib.hid (KC.out rfl)
          have KZ1 := Lib.hid (KZ.out rfl)
          have hz5 : w5.heap.size < w7.heap.size := HX7.out.lt
          clear KC KZ HNO
          obtain ⟨⟨⟨x1, x2, x3, x4⟩, z1, z2⟩, ⟨y1, y2, y3, y4⟩, z3, z4⟩ := Q.out _ HB58.out
          go_wp2_with fail
          refine (KC1.out _ HB58.out).mono ?_
          rintro e w9 ⟨A1, a1, B1, b1, rfl, hF, hb9⟩
          have HF := Lib.hid hF
          have HY9 := Lib.hid (blk_on HY8.out hb9)
          have HB9 := Lib.hid (below_then HB8.out hb9)
          have l1 := HY9.out.cell 0
          have l2 := HY9.out.cell 1
          have l3 := HY9.out.frozen 0
          have l4 := HY9.out.frozen 1
          have l5 := HY9.out.lt
          simp only [List.getElem?_toArray, List.getElem?_cons_zero, List.getElem?_cons_succ] at l1 l2
          clear hF hb9
          have hfm := HF.out.mod (mod_set2 w9 w7.heap.size 0 (.slice A1 (canon g').roots.length a1) (.slice B1 (canon g').nodes.length b1)) (by intro b e; injection e with e; subst e; simp)
          have hby := (HY9.out.set_ 0 (.slice A1 (canon g').roots.length a1)).set_ 1 (.slice B1 (canon g').nodes.length b1)
          have hbb : Below w7.heap.size w7 ((w9.setCell ⟨w7.heap.size, 0, none⟩ (.slice A1 (canon g').roots.length a1)).setCell ⟨w7.heap.size, 1, none⟩ (.slice B1 (canon g').nodes.length b1)) := (HB9.out.setCell (Nat.le_refl _) _).setCell (Nat.le_refl _) _
          have HFM := Lib.hid hfm
          have HBY := Lib.hid hby
          have HBB := Lib.hid hbb
          clear hfm hby hbb
          go_wp2_with fail
          refine (KZ1.out _ _ _ _ (duo_form HFM.out.now).2).mono ?_
          rintro e w10 ⟨rfl, hb10⟩
          have HB10 := Lib.hid hb10
          clear hb10
          go_wp2_with fail
          go_meet
          exact ⟨A1, a1, B1, b1, rfl, blk_on HBY.out HB10.out, (Steady.of_firm HFM.out (by simp; omega)).below HB10.out, below_then HBB.out HB10.out⟩
      case rest =>
        obtain ⟨A1, a1, B1, b1, rfl, hy, hst, hb9⟩ := hcut
        clear HY8 HB8 HB58 KC KZ HNO KR1 KR2 x1 x2 x3 x4 y1 y2 y3 y4 z1 z2 z3 z4
        obtain ⟨w9, hw9⟩ : ∃ w9, w9 = wc := ⟨_, rfl⟩
        subst hw9
        have hB57 := HB7.out
        have HB59 := Lib.hid (show Below w5.heap.size w5 w9 from hB57.trans (hb9.mono hB57.size))
        have hX9 := HX7.out.below hb9 HX7.out.lt
        have HBG := Lib.hid (BookG.start hX9)
        have HX9 := Lib.hid hX9
        have HY := Lib.hid hy
        have HST := Lib.hid hst
        have HM := Lib.hid ((small_room HSS.out.1).canon)
        have HM9 := Lib.hid (show (canon g').roots.length ≤ 90000 ∧ (canon g').nodes.length ≤ 90000 from by
          have h1 := HSS.out.1
          cases hr : right g' with
          | true =>
            obtain ⟨q1, q2, -, -⟩ := right_parts (number_right hr)
            rw [canon_right hr]; omega
          | false =>
            simp only [Gr.canon, hr]
            have := h1.1; have := h1.2.1
            exact ⟨by simp; omega, by simp; omega⟩)
        have HBW := Lib.hid (show ∀ W, Mod (fun b => b = w5.heap.size) w9 W → Below w5.heap.size w5 W from fun W hm => Gr.mod_below HB59.out hm HB59.out.size (by rintro b hb rfl; omega))
        have hne : w7.heap.size ≠ w5.heap.size := Base.Blk.ne_ hy hX9 (by decide)
        have HYW := Lib.hid (show ∀ W, Mod (fun b => b = w5.heap.size) w9 W → Blk W w7.heap.size 25 #[.slice A1 (canon g').roots.length a1, .slice B1 (canon g').nodes.length b1] from fun W hm => hy.mod hm hne)
        clear hy hst hb9 hB57 hX9 HX7 HB7 hne hX5
        go_upto_block 0 with fail
        go_cut [] (fun wx => ∃ K, BookG w9 wx w5.heap.size K ∧ KOK K 2)
        case first =>
          go_wp2_with fail
          go_loopw [14] (fun i wr => ∃ (k : Nat) (K : Kept), k ≤ 2 ∧ i = .int .i64 (k : Int) ∧ Hid (BookG w9 wr w5.heap.size K) ∧ Hid (KOK K k)) (fun i _ => 2 - (intOf i).toNat)
          case atStart => exact ⟨0, keptNil, by omega, rfl, HBG, Lib.hid KOK.nil⟩
          case round =>
            obtain ⟨k, K, hk, rfl, HG, HK⟩ := hrel
            by_cases hlt : k < 2
            · have HZ0 := Lib.hid (HBW.out _ HG.out.behind)
              have d0 : decide ((k : Int) < 2) = true := decide_eq_true (by omega)
              obtain ⟨⟨⟨x1, x2, x3, x4⟩, z1, z2⟩, ⟨y1, y2, y3, y4⟩, z3, z4⟩ := Q.out _ HZ0.out
              obtain ⟨k1, k2⟩ := KM.out _ HZ0.out
              have KCN := Lib.hid (canon_deep M N g' m n wr (small_room HSS.out.1) k1 k2)
              clear k1 k2
              go_wp2_with fail
              refine KCN.out.mono ?_
              rintro e w10 ⟨A5, a5, D5, d5, ps, rfl, hd, hb10⟩
              have HD := Lib.hid (hd.below (below_new w10 (.cells #[.slice A5 (canon g').roots.length a5, .slice D5 (canon g').nodes.length d5] 25)))
              have HB10 := Lib.hid hb10
              have HG10 := Lib.hid (HG.out.below (hb10.alloc hb10.size (.cells #[.slice A5 (canon g').roots.length a5, .slice D5 (canon g').nodes.length d5] 25)))
              have HZ1 := Lib.hid (Blk.new w10 25 #[.slice A5 (canon g').roots.length a5, .slice D5 (canon g').nodes.length d5])
              have KB := Lib.hid (book_graph HG10.out HK.out (by omega) HD.out (fun b hb => HG.out.lt b hb) HG.out.behind.size HM9.out HM.out.2.2)
              clear hd hb10 x1 x2 x3 x4 y1 y2 y3 y4 z1 z2 z3 z4
              go_wp2_with fail
              refine KB.out.mono ?_
              rintro e w12 ⟨rfl, ⟨K', hbk, hko⟩, hkd⟩
              have HBK := Lib.hid hbk
              have HKO := Lib.hid hko
              have HZ2 := Lib.hid (hkd.box _ _ HZ1.out)
              have hyw := HYW.out _ hbk.behind
              have hgi := duo_form (HST.out w12 hbk.behind)
              have hd12 : DeepG w12 wr.heap.size A5 a5 D5 d5 ps (canon g') := ⟨hkd.ints _ _ _ _ HD.out.1, hkd.nodes _ _ _ _ HD.out.2.1, hkd.deeps HD.out.2.2⟩
              have KA := Lib.hid (refalike_any A5 D5 A1 B1 (canon g') (canon g') a5 d5 a1 b1 w12 (hd12.ints HM.out.1) (hd12.nodes HM.out.2.1) hgi.1 hgi.2)
              have l1 := HZ2.out.cell 0
              have l2 := HZ2.out.cell 1
              have l3 := HZ2.out.lt
              have l4 := hyw.cell 0
              have l5 := hyw.cell 1
              have l6 := hyw.lt
              simp only [List.getElem?_toArray, List.getElem?_cons_zero, List.getElem?_cons_succ] at l1 l2 l4 l5
              have hdt : decide (canon g' = canon g') = true := decide_eq_true rfl
              have HDT := Lib.hid hdt
              clear hbk hko hkd hyw hgi hd12 hdt
              go_wp2_with fail
              refine KA.out.mono ?_
              rw [HDT.out]
              rintro e w13 ⟨rfl, hb13⟩
              have HB13 := Lib.hid (HBK.out.below hb13)
              clear hb13
              go_wp2_with fail
              go_roundw
              case rel => exact ⟨k + 1, K', by omega, by go_num, HB13, HKO⟩
              case measure => simp [intOf]; omega
            · obtain rfl : k = 2 := by omega
              go_wp2_with fail
              go_meet
              exact ⟨K, HG.out, HK.out⟩
        case rest =>
          obtain ⟨K, hg, hko⟩ := hcut
          obtain ⟨w14, hw14⟩ : ∃ w14, w14 = wc := ⟨_, rfl⟩
          subst hw14
          have HG := Lib.hid hg
          have HKO := Lib.hid hko
          have HB5 := Lib.hid (HBW.out _ hg.behind)
          have hy := HYW.out _ hg.behind
          have HQ := Lib.hid (show ∀ W, Below w14.heap.size w14 W → Below w5.heap.size w5 W ∧ ((W.cell? ⟨w7.heap.size, 0, none⟩ = some (.slice A1 (canon g').roots.length a1) ∧ W.cell? ⟨w7.heap.size, 1, none⟩ = some (.slice B1 (canon g').nodes.length b1)) ∧ w7.heap.size < W.heap.size) ∧ Ints W A1 (canon g').roots ∧ Nodes W B1 (canon g').nodes from fun W hb =>
            ⟨HB5.out.trans (hb.mono HB5.out.size), ⟨⟨(hy.below hb hy.lt).cell 0, (hy.below hb hy.lt).cell 1⟩, (hy.below hb hy.lt).lt⟩, duo_form (HST.out W (hg.below hb).behind)⟩)
          have KC2 := Lib.hid (show is = true → ∀ (W : World), Below w5.heap.size w5 W → Calls Tryz.prog 9 #[.agg #[.slice C' h'.roots.length c', .slice D' h'.nodes.length d'], .slice none 0 0] W fun e w' => ∃ A1 a1 B1 b1, e = .returned (.agg #[.slice A1 (canon h').roots.length a1, .slice B1 (canon h').nodes.length b1]) ∧ (Ints w' A1 (canon h').roots ∧ Nodes w' B1 (canon h').nodes) ∧ Below W.heap.size W w' from fun he W hb => by
            have hr : right h' = true := HIS.out.trans he
            obtain ⟨h1, h2, h3, h4⟩ := right_parts hr
            have k := refcanon_any C' D' h' c' d' W (HH.out.below hb).h1 (HH.out.below hb).h2 h3 (by omega) (by omega) h4
            rw [← canon_right hr] at k
            refine k.mono ?_
            rintro e w' ⟨A1, a1, B1, b1, rfl, h1, h2, h3⟩
            exact ⟨A1, a1, B1, b1, rfl, ⟨h1, h2⟩, h3⟩)
          obtain ⟨-, ⟨⟨l1, l2⟩, l3⟩, -, -⟩ := HQ.out _ (Below.refl _ _)
          obtain ⟨⟨⟨x1, x2, x3, x4⟩, z1, z2⟩, ⟨y1, y2, y3, y4⟩, z3, z4⟩ := Q.out _ HB5.out
          obtain ⟨sm, hsm⟩ : ∃ sm, same g' h' = sm := ⟨_, rfl⟩
          have hsm2 : sm = (ok && is && decide (canon g' = canon h')) := by rw [← hsm, same, HOK.out, HIS.out]
          have HSM := Lib.hid hsm
          have HSM2 := Lib.hid hsm2
          clear hg hko hy HBG hsm hsm2
          go_upto_region 19 with fail
          go_cut [16] (fun u16 wx => u16 = .bool sm ∧ Below w14.heap.size w14 wx)
          case first =>
            cases ok
            · have hs : sm = false := HSM2.out
              subst hs
              clear HSM HSM2
              go_quiet (fail)
              go_wp2_with fail
              go_meet
              exact ⟨rfl, below_drewN (Below.refl _ _) _⟩
            · cases is
              · have hs : sm = false := HSM2.out
                subst hs
                clear HSM HSM2
                go_quiet (fail)
                go_wp2_with fail
                go_meet
                exact ⟨rfl, below_drewN (Below.refl _ _) _⟩
              · have hs : decide (canon g' = canon h') = sm := by have := HSM2.out; simpa using this.symm
                have HS := Lib.hid hs
                have KC3 := Lib.hid (KC2.out rfl)
                clear hs HSM HSM2 KC2
                have H1 := Lib.hid (HQ.out _ (Below.refl w14.heap.size w14).drew)
                go_region_held3 (fun W => ((W.cell? ⟨w7.heap.size, 0, none⟩ = some (.slice A1 (canon g').roots.length a1) ∧ W.cell? ⟨w7.heap.size, 1, none⟩ = some (.slice B1 (canon g').nodes.length b1)) ∧ W.cell? ⟨w.heap.size + 1, 0, none⟩ = some (.slice C' h'.roots.length c') ∧ W.cell? ⟨w.heap.size + 1, 1, none⟩ = some (.slice D' h'.nodes.length d')) ∧ Below w14.heap.size w14 W)
                  (first
                    | exact ⟨hS, hD⟩
                    | exact ⟨⟨⟨l1, l2⟩, x3, x4⟩, (Below.refl w14.heap.size w14).drew⟩
                    | go_keep)
                  (first
                    | (go_at_call 13
                       revert hV
                       intro hV
                       refine (refalike_any A1 B1 A6 B6 (canon g') (canon h') a1 b1 a6 b6 _ (HQ.out _ hD).2.2.1 (HQ.out _ hD).2.2.2 hV.1 hV.2).mono ?_
                       rw [HS.out]
                       rintro e w15 ⟨rfl, hb⟩
                       have hD := hD.trans (hb.mono hD.size)
                       have hS := And.intro (HQ.out _ hD).2.1.1 (And.intro (Q.out _ (HQ.out _ hD).1).1.1.2.2.1 (Q.out _ (HQ.out _ hD).1).1.1.2.2.2))
                    | (go_at_call 9
                       refine (KC3.out _ H1.out.1).mono ?_
                       rintro e w15 ⟨A6, a6, B6, b6, rfl, hV, hb⟩
                       have hD := (Below.refl w14.heap.size w14).drew.trans hb
                       have hS := And.intro (HQ.out _ hD).2.1.1 (And.intro (Q.out _ (HQ.out _ hD).1).1.1.2.2.1 (Q.out _ (HQ.out _ hD).1).1.1.2.2.2)))
                all_goals
                  go_wp2_with fail
                  go_meet
                  exact ⟨rfl, hD⟩
          case rest =>
            obtain ⟨rfl, hb15⟩ := hcut
            obtain ⟨w15, hw15⟩ : ∃ w15, w15 = wc := ⟨_, rfl⟩
            subst hw15
            have HB15 := Lib.hid hb15
            have HD5 := Lib.hid (show ∀ W, Below w15.heap.size w15 W → Below w5.heap.size w5 W from fun W hb => (HQ.out W (below_then HB15.out hb)).1)
            have HC8 := Lib.hid (show ∀ W, Below w15.heap.size w15 W → ((W.cell? ⟨w.heap.size, 0, none⟩ = some (.slice A' g'.roots.length a') ∧ W.cell? ⟨w.heap.size, 1, none⟩ = some (.slice B' g'.nodes.length b')) ∧ W.cell? ⟨w.heap.size + 1, 0, none⟩ = some (.slice C' h'.roots.length c') ∧ W.cell? ⟨w.heap.size + 1, 1, none⟩ = some (.slice D' h'.nodes.length d')) ∧ (W.cell? ⟨q, 0, none⟩ = some (.slice M g'.roots.length m) ∧ W.cell? ⟨q, 1, none⟩ = some (.slice N g'.nodes.length n)) ∧ W.cell? ⟨r, 0, none⟩ = some (.slice M2 h'.roots.length m2) ∧ W.cell? ⟨r, 1, none⟩ = some (.slice N2 h'.nodes.length n2) from fun W hb => by
              obtain ⟨⟨⟨x1, x2, x3, x4⟩, z1, z2⟩, ⟨y1, y2, y3, y4⟩, z3, z4⟩ := Q.out _ (HD5.out W hb)
              exact ⟨⟨⟨x1, x2⟩, x3, x4⟩, ⟨y1, y2⟩, y3, y4⟩)
            clear x1 x2 x3 x4 y1 y2 y3 y4 z1 z2 z3 z4 l1 l2 l3 hb15
            obtain ⟨⟨⟨x1, x2, x3, x4⟩, z1, z2⟩, ⟨y1, y2, y3, y4⟩, z3, z4⟩ := Q.out _ (HD5.out _ (Below.refl _ _))
            have H1 := Lib.hid (HC8.out _ (Below.refl w15.heap.size w15).drew)
            obtain ⟨al, hal⟩ : ∃ al, decide (g' = h') = al := ⟨_, rfl⟩
            have HAL := Lib.hid hal
            obtain ⟨sz, hsz⟩ : ∃ sz, size g' = sz := ⟨_, rfl⟩
            have HSZ := Lib.hid hsz
            rw [hsz]
            have v1 : (ok != ok) = false := by simp
            have v2 : (sm != sm) = false := by simp
            have v3 : (al != al) = false := by simp
            have v4 : ((sz : Int) != (sz : Int)) = false := by simp
            have hD := (Below.refl w15.heap.size w15).drew
            clear hal hsz
            go_upto_region 20 with fail
            go_cut [100] (fun u100 wx => u100 = .bool false ∧ Below w15.heap.size w15 wx)
            case first =>
              go_region_held3 (fun W => ((((W.cell? ⟨w.heap.size, 0, none⟩ = some (.slice A' g'.roots.length a') ∧ W.cell? ⟨w.heap.size, 1, none⟩ = some (.slice B' g'.nodes.length b')) ∧ W.cell? ⟨w.heap.size + 1, 0, none⟩ = some (.slice C' h'.roots.length c') ∧ W.cell? ⟨w.heap.size + 1, 1, none⟩ = some (.slice D' h'.nodes.length d')) ∧ (W.cell? ⟨q, 0, none⟩ = some (.slice M g'.roots.length m) ∧ W.cell? ⟨q, 1, none⟩ = some (.slice N g'.nodes.length n)) ∧ W.cell? ⟨r, 0, none⟩ = some (.slice M2 h'.roots.length m2) ∧ W.cell? ⟨r, 1, none⟩ = some (.slice N2 h'.nodes.length n2))) ∧ Below w15.heap.size w15 W)
                (first
                  | exact ⟨hS, hD⟩
                  | exact ⟨H1.out, hD⟩
                  | go_keep)
                (first
                  | (go_at_call 17
                     refine (size_any M N g' m n _ (KM.out _ (HD5.out _ hD)).1 (KM.out _ (HD5.out _ hD)).2).mono ?_
                     rw [HSZ.out]
                     rintro e w16 ⟨rfl, hb⟩
                     have hD := hD.trans (hb.mono hD.size)
                     have hS := HC8.out _ hD)
                  | (go_at_call 13
                     refine (refalike_any A' B' C' D' g' h' a' b' c' d' _ (HH.out.below (HD5.out _ hD)).g1 (HH.out.below (HD5.out _ hD)).g2 (HH.out.below (HD5.out _ hD)).h1 (HH.out.below (HD5.out _ hD)).h2).mono ?_
                     rw [HAL.out]
                     rintro e w16 ⟨rfl, hb⟩
                     have hD := hD.trans (hb.mono hD.size)
                     have hS := HC8.out _ hD)
                  | (go_at_call 16
                     refine (alikeg_any M N M2 N2 g' h' m n m2 n2 _ (KM.out _ (HD5.out _ hD)).1 (KM.out _ (HD5.out _ hD)).2 (KN.out _ (HD5.out _ hD)).1 (KN.out _ (HD5.out _ hD)).2).mono ?_
                     rw [HAL.out]
                     rintro e w16 ⟨rfl, hb⟩
                     have hD := hD.trans (hb.mono hD.size)
                     have hS := HC8.out _ hD)
                  | (go_at_call 15
                     refine (same_any M N M2 N2 g' h' m n m2 n2 _ (KM.out _ (HD5.out _ hD)).1 (KM.out _ (HD5.out _ hD)).2 (KN.out _ (HD5.out _ hD)).1 (KN.out _ (HD5.out _ hD)).2).mono ?_
                     rw [HSM.out]
                     rintro e w16 ⟨rfl, hb⟩
                     have hD := hD.trans (hb.mono hD.size)
                     have hS := HC8.out _ hD)
                  | (go_at_call 14
                     refine (right_any M N g' m n _ (KM.out _ (HD5.out _ hD)).1 (KM.out _ (HD5.out _ hD)).2).mono ?_
                     rw [HOK.out]
                     rintro e w16 ⟨rfl, hb⟩
                     have hD := hD.trans (hb.mono hD.size)
                     have hS := HC8.out _ hD))
              all_goals
                go_wp2_with fail
                go_meet
                exact ⟨rfl, hD⟩
            case rest =>
              obtain ⟨rfl, hb20⟩ := hcut
              obtain ⟨w20, hw20⟩ : ∃ w20, w20 = wc := ⟨_, rfl⟩
              subst hw20
              have HB20 := Lib.hid hb20
              have HE5 := Lib.hid (show ∀ W, Below w20.heap.size w20 W → Below w5.heap.size w5 W from fun W hb => HD5.out W (below_then HB20.out hb))
              have HC9 := Lib.hid (show ∀ W, Below w20.heap.size w20 W → (W.cell? ⟨w.heap.size, 0, none⟩ = some (.slice A' g'.roots.length a') ∧ W.cell? ⟨w.heap.size, 1, none⟩ = some (.slice B' g'.nodes.length b')) ∧ (W.cell? ⟨q, 0, none⟩ = some (.slice M g'.roots.length m) ∧ W.cell? ⟨q, 1, none⟩ = some (.slice N g'.nodes.length n)) from fun W hb => by
                obtain ⟨⟨⟨x1, x2⟩, x3, x4⟩, ⟨y1, y2⟩, y3, y4⟩ := HC8.out W (below_then HB20.out hb)
                exact ⟨⟨x1, x2⟩, ⟨y1, y2⟩⟩)
              have HC10 := Lib.hid (show ∀ W, Below w20.heap.size w20 W → ((W.cell? ⟨w.heap.size, 0, none⟩ = some (.slice A' g'.roots.length a') ∧ W.cell? ⟨w.heap.size, 1, none⟩ = some (.slice B' g'.nodes.length b')) ∧ W.cell? ⟨w.heap.size + 1, 0, none⟩ = some (.slice C' h'.roots.length c') ∧ W.cell? ⟨w.heap.size + 1, 1, none⟩ = some (.slice D' h'.nodes.length d')) ∧ (W.cell? ⟨q, 0, none⟩ = some (.slice M g'.roots.length m) ∧ W.cell? ⟨q, 1, none⟩ = some (.slice N g'.nodes.length n)) ∧ W.cell? ⟨r, 0, none⟩ = some (.slice M2 h'.roots.length m2) ∧ W.cell? ⟨r, 1, none⟩ = some (.slice N2 h'.nodes.length n2) from fun W hb => HC8.out W (below_then HB20.out hb))
              clear x1 x2 x3 x4 y1 y2 y3 y4 z1 z2 z3 z4 hb20 H1 hD v1 v2 v3 v4 HC8 HAL
              obtain ⟨⟨⟨x1, x2, x3, x4⟩, z1, z2⟩, ⟨y1, y2, y3, y4⟩, z3, z4⟩ := Q.out _ (HE5.out _ (Below.refl _ _))
              have H1 := Lib.hid (HC9.out _ (Below.refl w20.heap.size w20).drew)
              have KX := Lib.hid (show ∀ W, Below w5.heap.size w5 W → Calls Tryz.prog 11 #[.agg #[.slice M g'.roots.length m, .slice N g'.nodes.length n]] W fun e w' => ∃ A b B d, e = .returned (.agg #[.slice A (canon g').roots.length b, .slice B (canon g').nodes.length d]) ∧ (Ints w' A (canon g').roots ∧ Nodes w' B (canon g').nodes) ∧ Below W.heap.size W w' from fun W hb => by
                refine (canon_deep M N g' m n W (small_room HSS.out.1) (KM.out W hb).1 (KM.out W hb).2).mono ?_
                rintro e w' ⟨A, b, B, d, ps, rfl, hd, hb⟩
                exact ⟨A, b, B, d, rfl, ⟨hd.ints HM.out.1, hd.nodes HM.out.2.1⟩, hb⟩)
              have KXX := Lib.hid (show ok = true → ∀ W A b B d, Ints W A (canon g').roots → Nodes W B (canon g').nodes → Calls Tryz.prog 11 #[.agg #[.slice A (canon g').roots.length b, .slice B (canon g').nodes.length d]] W fun e w' => ∃ A b B d, e = .returned (.agg #[.slice A (canon g').roots.length b, .slice B (canon g').nodes.length d]) ∧ (Ints w' A (canon g').roots ∧ Nodes w' B (canon g').nodes) ∧ Below W.heap.size W w' from fun he W A b B d h1 h2 => by
                have k := canon_deep A B (canon g') b d W HM.out h1 h2
                rw [Iso.canon_twice (HOK.out.trans he)] at k
                refine k.mono ?_
                rintro e w' ⟨A, b, B, d, ps, rfl, hd, hb⟩
                exact ⟨A, b, B, d, rfl, ⟨hd.ints HM.out.1, hd.nodes HM.out.2.1⟩, hb⟩)
              have KS := Lib.hid (show ok = true → same g' (canon g') = true from fun he => by
                have hr : right g' = true := HOK.out.trans he
                have hrc : right (canon g') = true := by rw [canon_right hr]; exact number_right hr
                simp [same, hr, hrc, Iso.canon_twice hr])
              have KT := Lib.hid (show ok = true → ∀ W, Below w5.heap.size w5 W → (Calls Tryz.prog 18 #[.agg #[.slice M g'.roots.length m, .slice N g'.nodes.length n]] W fun e w' => e = .returned (.string ⟨(grText g').toArray⟩) ∧ Below W.heap.size W w') ∧ (Calls Tryz.prog 19 #[.agg #[.slice A' g'.roots.length a', .slice B' g'.nodes.length b']] W fun e w' => e = .returned (.string ⟨(grText g').toArray⟩) ∧ Below W.heap.size W w') from fun he W hb => by
                have hr : right g' = true := HOK.out.trans he
                obtain ⟨r1, r2, r3, r4⟩ := right_texts hr
                obtain ⟨p1, p2, p3, p4⟩ := right_fits hr
                refine ⟨text_any M N g' m n W (KM.out W hb).1 (KM.out W hb).2 r1 r2 r3 r4 (HH.out.below hb).duo.tab, rtext_any A' B' g' a' b' W (HH.out.below hb).g1 (HH.out.below hb).g2 (by omega) (by omega) (fun v hv => by have := p3 v hv; omega) (fun x hx => ?_)⟩
                obtain ⟨q1, q2, q3, q4⟩ := p4 x hx
                exact ⟨by omega, by omega, fun v hv => by have := q3 v hv; omega, fun v hv => by have := q4 v hv; omega⟩)
              have hD := (Below.refl w20.heap.size w20).drew
              go_upto_region 22 with fail
              go_cut [124] (fun u124 wx => u124 = .bool false ∧ Below w20.heap.size w20 wx)
              case first =>
                cases ok
                · go_quiet (fail)
                  go_wp2_with fail
                  go_meet
                  exact ⟨rfl, below_drewN (Below.refl _ _) _⟩
                · have KXX1 := Lib.hid (KXX.out rfl)
                  have KS1 := Lib.hid (KS.out rfl)
                  have KT1 := Lib.hid (KT.out rfl)
                  have KAA := Lib.hid (show ∀ (W : World) (A : Option Addr) (a : Nat) (B : Option Addr) (b : Nat) (A2 : Option Addr) (a2 : Nat) (B2 : Option Addr) (b2 : Nat), Ints W A (canon g').roots → Nodes W B (canon g').nodes → Ints W A2 (canon g').roots → Nodes W B2 (canon g').nodes →
                      Calls Tryz.prog 16 #[.agg #[.slice A (canon g').roots.length a, .slice B (canon g').nodes.length b], .agg #[.slice A2 (canon g').roots.length a2, .slice B2 (canon g').nodes.length b2]] W fun e w' => e = .returned (.bool true) ∧ Below W.heap.size W w' from fun W A a B b A2 a2 B2 b2 i1 i2 i3 i4 => by
                    refine (alikeg_any A B A2 B2 (canon g') (canon g') a b a2 b2 W i1 i2 i3 i4).mono ?_
                    rintro e w' ⟨rfl, hb⟩
                    exact ⟨ret_bool (decide_eq_true rfl), hb⟩)
                  clear KXX KS KT
                  obtain ⟨tx, htx⟩ : ∃ tx, grText g' = tx := ⟨_, rfl⟩
                  have HTX := Lib.hid htx
                  have v1 : (tx != tx) = false := by simp
                  clear htx
                  go_region_held3 (fun W => (((W.cell? ⟨w.heap.size, 0, none⟩ = some (.slice A' g'.roots.length a') ∧ W.cell? ⟨w.heap.size, 1, none⟩ = some (.slice B' g'.nodes.length b')) ∧ (W.cell? ⟨q, 0, none⟩ = some (.slice M g'.roots.length m) ∧ W.cell? ⟨q, 1, none⟩ = some (.slice N g'.nodes.length n))) ∧ Below w20.heap.size w20 W))
                    (first
                      | exact ⟨hS, hD⟩
                      | exact ⟨H1.out, hD⟩
                      | go_keep)
                    (first
                      | (go_at_call 16
                         refine (KAA.out _ A7 a7 B7 b7 A8 a8 B8 b8 hV7.1 hV7.2 hV8.1 hV8.2).mono ?_
                         rintro e w26 ⟨rfl, hb⟩
                         have hD := hD.trans (hb.mono hD.size)
                         have hS := HC9.out _ hD)
                      | (go_at_call 11
                         revert hV7
                         intro hV7
                         refine (KX.out _ (HE5.out _ hD)).mono ?_
                         rintro e w25 ⟨A8, a8, B8, b8, rfl, hV8, hb⟩
                         have hV7 := And.intro (hV7.1.below hb) (hV7.2.below hb)
                         have hD := hD.trans (hb.mono hD.size)
                         have hS := HC9.out _ hD)
                      | (go_at_call 11
                         revert hV6
                         intro hV6
                         refine (KXX1.out _ A6 a6 B6 b6 hV6.1 hV6.2).mono ?_
                         rintro e w24 ⟨A7, a7, B7, b7, rfl, hV7, hb⟩
                         have hD := hD.trans (hb.mono hD.size)
                         have hS := HC9.out _ hD)
                      | (go_at_call 11
                         revert hSm
                         intro hSm
                         refine (KX.out _ (HE5.out _ hD)).mono ?_
                         rintro e w23 ⟨A6, a6, B6, b6, rfl, hV6, hb⟩
                         have hD := hD.trans (hb.mono hD.size)
                         have hS := HC9.out _ hD)
                      | (go_at_call 15
                         refine (same_any M N A5 B5 g' (canon g') m n a5 b5 _ (KM.out _ (HE5.out _ hD)).1 (KM.out _ (HE5.out _ hD)).2 hV5.1 hV5.2).mono ?_
                         rw [KS1.out]
                         rintro e w22 ⟨rfl, hb⟩
                         have hSm := True.intro
                         have hD := hD.trans (hb.mono hD.size)
                         have hS := HC9.out _ hD)
                      | (go_at_call 11
                         refine (KX.out _ (HE5.out _ hD)).mono ?_
                         rintro e w22 ⟨A5, a5, B5, b5, rfl, hV5, hb⟩
                         have hD := hD.trans (hb.mono hD.size)
                         have hS := HC9.out _ hD)
                      | (go_at_call 19
                         refine (KT1.out _ (HE5.out _ hD)).2.mono ?_
                         rw [HTX.out]
                         rintro e w21 ⟨rfl, hb⟩
                         have hD := hD.trans (hb.mono hD.size)
                         have hS := HC9.out _ hD)
                      | (go_at_call 18
                         refine (KT1.out _ (HE5.out _ hD)).1.mono ?_
                         rw [HTX.out]
                         rintro e w21 ⟨rfl, hb⟩
                         have hD := hD.trans (hb.mono hD.size)
                         have hS := HC9.out _ hD))
                  all_goals
                    go_wp2_with fail
                    go_meet
                    exact ⟨rfl, hD⟩
              case rest =>
                obtain ⟨rfl, hb24⟩ := hcut
                obtain ⟨w24, hw24⟩ : ∃ w24, w24 = wc := ⟨_, rfl⟩
                subst hw24
                have HB24 := Lib.hid hb24
                have HF5 := Lib.hid (HE5.out _ hb24)
                have KS1 := Lib.hid (fun (W : World) (hb : Below w5.heap.size w5 W) => staysG_any A' B' M N g' a' b' m n 0 W (HH.out.below hb).g1 (HH.out.below hb).g2 (KL1.out W hb).1 (KL1.out W hb).2 (small_room HSS.out.1).1 (small_room HSS.out.1).2.1 (small_room HSS.out.1).2.2)
                have KS2 := Lib.hid (fun (W : World) (hb : Below w5.heap.size w5 W) => staysG_any C' D' M2 N2 h' c' d' m2 n2 0 W (HH.out.below hb).h1 (HH.out.below hb).h2 (KL2.out W hb).1 (KL2.out W hb).2 (small_room HSS.out.2).1 (small_room HSS.out.2).2.1 (small_room HSS.out.2).2.2)
                have HGB := Lib.hid (show ∀ W, Below w24.heap.size w24 W → BookG w9 W w5.heap.size K from fun W hb => HG.out.below (below_then HB15.out (below_then HB20.out (below_then HB24.out hb))))
                clear hb24 x1 x2 x3 x4 y1 y2 y3 y4 z1 z2 z3 z4
                obtain ⟨⟨⟨x1, x2, x3, x4⟩, z1, z2⟩, ⟨y1, y2, y3, y4⟩, z3, z4⟩ := Q.out _ HF5.out
                go_wp2_with fail
                refine (KS1.out _ HF5.out).mono ?_
                rintro e w25 ⟨rfl, hb25⟩
                have HB25 := Lib.hid hb25
                have HF6 := Lib.hid (HF5.out.trans (hb25.mono HF5.out.size))
                clear hb25 x1 x2 x3 x4 y1 y2 y3 y4 z1 z2 z3 z4
                obtain ⟨⟨⟨x1, x2, x3, x4⟩, z1, z2⟩, ⟨y1, y2, y3, y4⟩, z3, z4⟩ := Q.out _ HF6.out
                go_wp2_with fail
                refine (KS2.out _ HF6.out).mono ?_
                rintro e w26 ⟨rfl, hb26⟩
                have HB26 := Lib.hid (below_then HB25.out hb26)
                clear hb26
                go_wp2_with fail
                refine (bookg_apart (HGB.out _ HB26.out) (by rw [HKO.out.i]; omega) (by rw [HKO.out.n]; omega) HKO.out.li HKO.out.ln HKO.out.d).mono ?_
                rintro e w27 ⟨rfl, hm27⟩
                have HB27 := Lib.hid (HBW.out _ hm27)
                clear hm27
                go_wp2_with fail
                go_ret
                exact ⟨rfl, HH.out.duo.low.trans (HB27.out.mono HH.out.duo.low.size)⟩
end Go.Proofs.YtbelbhdhcgpcpaaGreatDoor.BkNodes
namespace Go.Proofs.YtbelbhdhcgpcpaaGreatDoor.Args
open Go.ChangeShapes Go.WideShapes Go.ChangeAt Go.RowKit Go.Deep Go.Joins Go.Proofs.YtbelbhdhcgpcpaaGreatDoor.Base Go.Proofs.YtbelbhdhcgpcpaaGreatDoor.Gr
set_option linter.unusedVariables false
set_option linter.unusedSimpArgs false

theorem laidOut : laidOutB Tryz.prog = true := by kernel_rfl
theorem own : ownKnob Tryz.prog.godebug = none := by kernel_rfl

theorem wf_i64 {v : Int} (h : (Lit.int .i64 v).wf = true) : -9223372036854775808 ≤ v ∧ v ≤ 9223372036854775807 := by
  have h1 : IntKind.i64.min = -9223372036854775808 := by rfl
  have h2 : IntKind.i64.max = 9223372036854775807 := by rfl
  simp only [Lit.wf, h1, h2, Bool.and_eq_true, decide_eq_true_eq] at h
  omega
theorem list_of {α : Type} {P : Nat → α → Prop} (n : Nat) (h : ∀ i, i < n → ∃ x, P i x) : ∃ l : List α, l.length = n ∧ ∀ i, (hi : i < l.length) → P i l[i] := by
  induction n with
  | zero => exact ⟨[], rfl, fun i hi => absurd hi (by simp)⟩
  | succ n ih =>
    obtain ⟨l, hl, hp⟩ := ih (fun i hi => h i (by omega))
    obtain ⟨x, hx⟩ := h n (by omega)
    refine ⟨l ++ [x], by simp [hl], fun i hi => ?_⟩
    rcases Nat.lt_or_ge i l.length with h1 | h1
    · rw [List.getElem_append_left h1]; exact hp i h1
    · have : i = l.length := by simp at hi; omega
      subst this
      rw [List.getElem_append_right (Nat.le_refl _)]
      simpa [hl] using hx

/-- What is met in reading takes no more than the reach. -/
def Fit {H : Type} (t : TypeId) (d : DataW H) : Prop := ∀ n ∈ d.weights Tryz.prog t, n ≤ reachBytes
theorem fit_of {H : Type} {ts : List TypeId} {ds : List (DataW H)} (h : (DataW.weightsEach Tryz.prog ts ds).all (· ≤ reachBytes) = true) {j : Nat} {t : TypeId} {d : DataW H} (ht : ts[j]? = some t) (hd : ds[j]? = some d) : Fit t d := fun n hn => by
  have := List.all_eq_true.1 h _ (DataW.weights_mem_each ht hd n hn)
  simpa using this

section
variable {H : Type} {enc : TypeId × Value → H} {w : World} {base : Nat} {spare : Nat → Bool} {held : Bool}
theorem weights_all {e : TypeId} {l : List (DataW H)} {d : DataW H} (hd : d ∈ l) : ∀ n ∈ d.weights Tryz.prog e, n ∈ DataW.weightsAll Tryz.prog e l := by
  induction l with
  | nil => cases hd
  | cons x l ih =>
    intro n hn
    simp only [DataW.weightsAll, List.mem_append]
    rcases List.mem_cons.1 hd with rfl | h
    · exact .inl hn
    · exact .inr (ih h n hn)
theorem open_ints {fuel : Nat} {v : Value} {y : DataW H × List MemPlace} (h : DataW.trod enc Tryz.prog w base spare held fuel 22 [v] = some y) (hf : Fit 22 y.1) : ∃ A c l, v = .slice A l.length c ∧ Ints w A l ∧ (∀ u ∈ l, -9223372036854775808 ≤ u ∧ u ≤ 9223372036854775807) := by
  rcases open_slice1 Tryz.underlying22 (by kernel_rfl) h with ⟨hcs, _⟩ | ⟨a, len, cap, m, n, V, D, Pl, hcs, hb, hl, hm, hmm, rfl, hi⟩
  · injection hcs with hcs
    subst hcs
    exact ⟨none, 0, [], rfl, Ints.nil _, fun u hu => by cases hu⟩
  · injection hcs with hcs
    subst hcs
    have hlm : len ≤ m := by rw [hmm]; split <;> omega
    obtain ⟨l, hll, hp⟩ := list_of (P := fun i (u : Int) => w.cell? (a.add i) = some (.int .i64 u) ∧ (-9223372036854775808 ≤ u ∧ u ≤ 9223372036854775807)) len (fun i him => by
      obtain ⟨h1, h2⟩ := hi i (by omega)
      obtain ⟨z, h3, _, h4⟩ := DataW.trod_int Tryz.underlying3 h2
      injection h3 with h3
      rw [h3] at h1
      exact ⟨z, h1, wf_i64 h4⟩)
    have hsz : len ≤ 17592186044416 := by
      have h1 := hf ((len + (m - len)) * Tryz.prog.bytesOf 3) (by simp [DataW.weights, Tryz.underlying22])
      have hB : Tryz.prog.bytesOf 3 = 8 := by kernel_rfl
      rw [hB] at h1
      have h2 : reachBytes = 140737488351232 := rfl
      rw [h2] at h1
      omega
    subst hll
    refine ⟨some a, cap, l, rfl, ⟨⟨by rw [enc_len ic_len], fun _ => ⟨a, rfl, fun j u hu => ?_⟩⟩, hsz⟩, fun u hu => ?_⟩
    · rw [enc_ic, List.getElem?_map] at hu
      obtain ⟨q, hq, rfl⟩ := Option.map_eq_some_iff.1 hu
      obtain ⟨hj, rfl⟩ := List.getElem?_eq_some_iff.1 hq
      exact (hp j hj).1
    · obtain ⟨i, hi', rfl⟩ := List.getElem_of_mem hu
      exact (hp i hi').2

/-- The numbers that a node, a graph may be handed in with. -/
def fitsI (l : List Int) : Prop := ∀ u ∈ l, -9223372036854775808 ≤ u ∧ u ≤ 9223372036854775807
def fitsN (x : Nd) : Prop := fitsI x.slots ∧ fitsI x.words
def fitsG (g : Gr) : Prop := fitsI g.roots ∧ ∀ x ∈ g.nodes, fitsN x

theorem node_cells : Tryz.prog.cellsOf 45 = 2 := by kernel_rfl
set_option maxRecDepth 100000 in
theorem open_nodes {fuel : Nat} {v : Value} {y : DataW H × List MemPlace} (h : DataW.trod enc Tryz.prog w base spare held fuel 23 [v] = some y) (hf : Fit 23 y.1) : ∃ A c l, v = .slice A l.length c ∧ Nodes w A l ∧ ∀ x ∈ l, fitsN x := by
  rcases open_slice Tryz.underlying23 h with ⟨hcs, _⟩ | ⟨a, len, cap, m, n, D, Pl, hcs, hb, hl, hm, hmm, rfl, hi⟩
  · injection hcs with hcs
    subst hcs
    exact ⟨none, 0, [], rfl, ⟨by simp, fun i hi => absurd hi (by simp)⟩, fun u hu => by cases hu⟩
  · injection hcs with hcs
    subst hcs
    have hlm : len ≤ m := by rw [hmm]; split <;> omega
    have hfa : ∀ i, i < len → Fit 45 (D i) := fun i hil n hn => by
      refine hf n ?_
      simp only [DataW.weights, Tryz.underlying23, List.mem_cons, List.mem_append]
      exact .inr (.inl (weights_all (List.mem_map.2 ⟨i, List.mem_range.2 hil, rfl⟩) n hn))
    obtain ⟨l, hll, hp⟩ := list_of (P := fun i (x : Nd) => NdAt w (a.add (i * 2)) x ∧ fitsN x) len (fun i him => by
      obtain ⟨cs', hc, ht'⟩ := hi i (by omega)
      rw [node_cells] at hc
      obtain ⟨_, hcl, hat⟩ := World.cells?_some hc
      obtain ⟨y0, y1, n', hy, _, hy0, hy1⟩ := trod_struct2 Tryz.underlying45 ht'
      match cs', hcl, hat, hy0, hy1 with
      | [v0, v1], _, hat, hy0, hy1 =>
        have hfi := hfa i him
        simp only [Prod.mk.injEq] at hy
        have t0 : DataW.trod enc Tryz.prog w base spare held n' 22 [v0] = some y0 := hy0
        have t1 : DataW.trod enc Tryz.prog w base spare held n' 22 [v1] = some y1 := hy1
        have f0 : Fit 22 y0.1 := fun n hn => hfi n (by
          rw [hy.1]
          simp only [DataW.weights, Tryz.underlying45]
          exact List.mem_append.2 (.inl hn))
        have f1 : Fit 22 y1.1 := fun n hn => hfi n (by
          rw [hy.1]
          simp only [DataW.weights, Tryz.underlying45]
          exact List.mem_append.2 (.inr (List.mem_append.2 (.inl hn))))
        obtain ⟨A0, c0, l0, rfl, i0, g0⟩ := open_ints t0 f0
        obtain ⟨A1, c1, l1, rfl, i1, g1⟩ := open_ints t1 f1
        have a0 := hat (i := 0) (by omega)
        have a1 := hat (i := 1) (by omega)
        refine ⟨⟨l0, l1⟩, ⟨A0, c0, A1, c1, ?_, ?_, i0, i1⟩, ⟨g0, g1⟩⟩
        · rw [add_of_add] at a0
          simpa using a0
        · simpa [Addr.add] using a1)
    have hsz : len ≤ 17592186044416 := by
      have h1 := hf ((len + (m - len)) * Tryz.prog.bytesOf 45) (by simp [DataW.weights, Tryz.underlying23])
      have hB : Tryz.prog.bytesOf 45 = 48 := by kernel_rfl
      rw [hB] at h1
      have h2 : reachBytes = 140737488351232 := rfl
      rw [h2] at h1
      omega
    subst hll
    refine ⟨some a, cap, l, rfl, ⟨hsz, fun i hil => ⟨a, rfl, (hp i hil).1⟩⟩, fun x hx => ?_⟩
    obtain ⟨i, hi', rfl⟩ := List.getElem_of_mem hx
    exact (hp i hi').2

set_option maxRecDepth 100000 in
/-- A graph by value. -/
theorem open_graph {b0 : Nat} {r : Reach} {v : Value} {d : DataW H} {p : List MemPlace} (hv : Value.okWide Tryz.prog w r b0 25 v) (h : DataW.Trod enc Tryz.prog w base spare held 25 v d p) (hf : Fit 25 d) :
    ∃ (g : Gr) (A : Option Addr) (c : Nat) (B : Option Addr) (e : Nat), v = .agg #[.slice A g.roots.length c, .slice B g.nodes.length e] ∧ Ints w A g.roots ∧ Nodes w B g.nodes ∧ fitsG g := by
  obtain ⟨v0, v1, y0, y1, n, rfl, hd, _, h0, h1⟩ := open_agg2 Tryz.underlying25 (by kernel_rfl) (by kernel_rfl) hv h
  have f0 : Fit 22 y0.1 := fun n hn => hf n (by
    rw [hd]
    simp only [DataW.weights, Tryz.underlying25]
    exact List.mem_append.2 (.inl hn))
  have f1 : Fit 23 y1.1 := fun n hn => hf n (by
    rw [hd]
    simp only [DataW.weights, Tryz.underlying25]
    exact List.mem_append.2 (.inr (List.mem_append.2 (.inl hn))))
  obtain ⟨A, c, l, rfl, i0, g0⟩ := open_ints h0 f0
  obtain ⟨B, e, m, rfl, i1, g1⟩ := open_nodes h1 f1
  exact ⟨⟨l, m⟩, A, c, B, e, rfl, i0, i1, ⟨g0, g1⟩⟩
set_option maxRecDepth 100000 in
/-- A node by value. -/
theorem open_node {b0 : Nat} {r : Reach} {v : Value} {d : DataW H} {p : List MemPlace} (hv : Value.okWide Tryz.prog w r b0 45 v) (h : DataW.Trod enc Tryz.prog w base spare held 45 v d p) (hf : Fit 45 d) :
    ∃ (x : Nd) (A : Option Addr) (c : Nat) (B : Option Addr) (e : Nat), v = .agg #[.slice A x.slots.length c, .slice B x.words.length e] ∧ Ints w A x.slots ∧ Ints w B x.words ∧ fitsN x := by
  obtain ⟨v0, v1, y0, y1, n, rfl, hd, _, h0, h1⟩ := open_agg2 Tryz.underlying45 (by kernel_rfl) (by kernel_rfl) hv h
  have f0 : Fit 22 y0.1 := fun n hn => hf n (by
    rw [hd]
    simp only [DataW.weights, Tryz.underlying45]
    exact List.mem_append.2 (.inl hn))
  have f1 : Fit 22 y1.1 := fun n hn => hf n (by
    rw [hd]
    simp only [DataW.weights, Tryz.underlying45]
    exact List.mem_append.2 (.inr (List.mem_append.2 (.inl hn))))
  obtain ⟨A, c, l, rfl, i0, g0⟩ := open_ints h0 f0
  obtain ⟨B, e, m, rfl, i1, g1⟩ := open_ints h1 f1
  exact ⟨⟨l, m⟩, A, c, B, e, rfl, i0, i1, ⟨g0, g1⟩⟩
end

end Go.Proofs.YtbelbhdhcgpcpaaGreatDoor.Args
namespace Go.Proofs.YtbelbhdhcgpcpaaGreatDoor.Laid
open Go.ChangeShapes Go.WideShapes Go.ChangeAt Go.RowKit
set_option linter.unusedVariables false
def list : List (String × DataW Unit) := [("math/bits.deBruijn32tab", Rows.laid_math_bits_deBruijn32tab), ("math/bits.deBruijn64tab", Rows.laid_math_bits_deBruijn64tab), ("internal/strconv.uint64pow10", Rows.laid_internal_strconv_uint64pow10)]
theorem door_met (os : Os) (args : Array Value) : laidMetH Tryz.prog list ((World.doorLaid Tryz.prog 24 os).forCall (fun _ _ => 0) ⟨#[], args, []⟩).memory :=
  laidMetH_of_parts3 (fuel := 8) (laidMet_of_run' 8 (by kernel_rfl) (by kernel_rfl)) (by kernel_rfl) (by kernel_rfl)
theorem gPow : Tryz.prog.globalNamed "internal/strconv.uint64pow10" = some 0 := by kernel_rfl
theorem tPow : (Tryz.prog.globals[0]?).map (·.type) = some 125 := by kernel_rfl
theorem dPow : (Rows.laid_internal_strconv_uint64pow10 : DataW Unit) = Lib.tabData .u64 Lib.pow10Tab := by kernel_rfl
theorem tab_of {W : World} (h : laidMetH Tryz.prog list W) : Str.Tab W := by
  rw [MakeChecks.laidMetH_plain _ _ _ (by kernel_rfl)] at h
  obtain ⟨ps, ⟨g0, t0, cs0, f0, p0, q0, hg0, ht0, hv0, hd0, ⟨g1, t1, cs1, f1, p1, q1, hg1, ht1, hv1, hd1, ⟨g2, t2, cs2, f2, p2, q2, hg2, ht2, hv2, hd2, _, _⟩, _⟩, _⟩, _, _⟩ := h
  obtain rfl := Option.some.inj (gPow.symm.trans hg2)
  obtain rfl := Option.some.inj (tPow.symm.trans ht2)
  rw [dPow] at hd2
  unfold Str.Tab Lib.TabIs
  rw [hv2]
  have e := Lib.cells_of_tab Tryz.underlying125 Tryz.underlying118 (by kernel_rfl) (by kernel_rfl) hd2
  rw [← e]
end Go.Proofs.YtbelbhdhcgpcpaaGreatDoor.Laid
namespace Go.Proofs.YtbelbhdhcgpcpaaGreatDoor.graphTells
open Go.ChangeShapes Go.WideShapes Go.ChangeAt Go.RowKit Go.Proofs.YtbelbhdhcgpcpaaGreatDoor.Base Go.Proofs.YtbelbhdhcgpcpaaGreatDoor.Args
open Go.ChangeMaps (open_string shut_string)
set_option linter.unusedVariables false
set_option linter.unusedSimpArgs false
set_option maxRecDepth 100000 in
theorem lifted (os : Os) (started : os.Started) (H : Type) (enc : TypeId × Value → H) :
    ReturnsInHanded {} Tryz.checked os 3 .any (fun w args => (Rows.graphTellsSpec.pre enc Tryz.prog Tryz.f3 [] false w args ∧ laidMetH Tryz.prog Laid.list w) ∧ sizedMet enc Tryz.prog Tryz.f3 (OpenSpec.ofChange Rows.graphTellsSpec) false w args)
      (Rows.graphTellsSpec.post enc Tryz.prog Tryz.f3 false true false false) := by
  refine returnsInHanded_of_change_and (C := Tryz.checked) (X := (fun w _ => laidMetH Tryz.prog Laid.list w)) (fun _ _ _ hh h => h.of_heap hh) own started (by kernel_rfl) Tryz.func3
    (ChangeSpec.witness_shaped (enc := enc) (C := Tryz.checked) (os := os) (X := (fun w _ => laidMetH Tryz.prog Laid.list w)) false (World.doorLaid Tryz.prog 24 os) #[.agg #[.slice none 0 0, .slice none 0 0], .agg #[.slice none 0 0, .slice none 0 0], .bool false] 8 rfl (World.shaped_of_RefB (by kernel_rfl) (by kernel_rfl)) (by kernel_rfl) (by kernel_rfl) (by kernel_rfl) (Laid.door_met os _)) ?_
  intro W base args ds gs before hval0 hW hcnd hsz0 hL _
  have tab := Laid.tab_of hL
  have hsz : (DataW.weightsEach Tryz.prog (Tryz.f3.params.toList ++ Rows.graphTellsSpec.plain.varTypes Tryz.prog) (ds ++ gs)).all (· ≤ reachBytes) = true := hsz0
  have hval : ∀ (j : Nat) t v, Tryz.f3.params[j]? = some t → args[j]? = some v → Value.okWide Tryz.prog W .any base t v := hval0
  have hW' := hW
  obtain ⟨p, q, hA0, hV, rfl, hfz, hnd⟩ := hW
  have hA : DataW.TrodAll enc Tryz.prog W 0 (fun _ => true) true Tryz.f3.params.toList args.toList ds p := hA0
  rw [Tryz.params3] at hA hval hsz
  obtain ⟨v0, vs0, d0, ds0, p0, q0, hargs, rfl, rfl, h0, r0⟩ := trodAll_cons hA
  obtain ⟨v1, vs1, d1, ds1, p1, q1, rfl, rfl, rfl, h1, r1⟩ := trodAll_cons r0
  obtain ⟨v2, vs2, d2, ds2, p2, q2, rfl, rfl, rfl, h2, r2⟩ := trodAll_cons r1
  obtain ⟨rfl, rfl, rfl⟩ := trodAll_nil r2
  obtain rfl : args = #[v0, v1, v2] := by cases args; simp_all
  obtain ⟨rfl, rfl⟩ := trodVars_none hV
  have k0 := h0
  have lt0 : ∀ x ∈ p0, x.block < W.heap.size := by obtain ⟨m, hm⟩ := k0; exact DataW.trod_lt m _ _ _ hm
  obtain ⟨x0, A0, c0, B0, e0, rfl, y0, z0, f0⟩ := open_graph (hval 0 25 v0 rfl rfl) h0 (fit_of hsz (j := 0) rfl rfl)
  have k1 := h1
  have lt1 : ∀ x ∈ p1, x.block < W.heap.size := by obtain ⟨m, hm⟩ := k1; exact DataW.trod_lt m _ _ _ hm
  obtain ⟨x1, A1, c1, B1, e1, rfl, y1, z1, f1⟩ := open_graph (hval 1 25 v1 rfl rfl) h1 (fit_of hsz (j := 1) rfl rfl)
  obtain ⟨a2, rfl, rfl, rfl⟩ := open_bool Tryz.underlying4 (hval 2 4 v2 rfl rfl) h2
  clear hA0 hval0 hsz0 hsz
  refine (BkNodes.tells_walk A0 B0 x0 c0 e0 A1 B1 x1 c1 e1 a2 W tab y0 z0 y1 z1).mono fun e W' ⟨he, bel⟩ => ?_
  subst he
  exact ⟨_, rfl, _, _, _, [], _, [], hW', trodAll_mk1 (shut_bool Tryz.underlying4 _), (trodAll_cons_mk (Below.trod laidOut (by kernel_rfl) (of_decide_eq_true (by kernel_rfl)) k0 bel lt0) (trodAll_cons_mk (Below.trod laidOut (by kernel_rfl) (of_decide_eq_true (by kernel_rfl)) k1 bel lt1) (trodAll_cons_mk (shut_bool Tryz.underlying4 _) trodAll_mk0))), rfl, bel.frame _, fun h => by cases h⟩
theorem over : Rows.graphTellsRow.holds Tryz.pinned (OpenSpec.ofChange Rows.graphTellsSpec) :=
  OpenClaim.holds_of_wide 3 Tryz.f3 rfl rfl rfl rfl rfl rfl rfl ⟨rfl, rfl, rfl, rfl, rfl⟩ rfl rfl rfl rfl rfl (by kernel_rfl) Tryz.func3 (by kernel_rfl)
    (of_decide_eq_true (by kernel_rfl)) (by unfold Func.isWrapper; first | (rw [if_pos (by decide +kernel)]; kernel_rfl) | (rw [if_neg (by decide +kernel)]; exact ⟨rfl, rfl⟩))
    (fun os started H enc _ => lifted os started H enc)
theorem said : Rows.GraphTellsSaid := over
theorem proved : Rows.GraphTellsCardSaid :=
  Claim7.holds_tied_plain_at .later [] [.data, .data, .data] true (true, "efaf33de1cc8f89b272913c5d111a2ec88342445ede1fec7acd4a5d50612ed9c") false
    said (fun _ h => by cases h) (by kernel_rfl) (fun _ h => by cases h) graphTells_row_tie rfl ⟨rfl, rfl⟩ (by kernel_rfl) rfl
    (fun f fn hf hfn => by
      obtain rfl : f = 3 := Option.some.inj ((show Tryz.prog.funcNamed "flitting/flittinglaw16.GraphTells" = some 3 by kernel_rfl).symm.trans hf) |>.symm
      obtain rfl : fn = Tryz.f3 := (Option.some.inj (Tryz.func3.symm.trans hfn)).symm
      exact ⟨by kernel_rfl, fun j t ht => by
        rw [Tryz.params3] at ht
        have hm : t ∈ [25, 25, 4] := by simpa using Array.mem_of_getElem? ht
        have hall : ([25, 25, 4].all fun u => !Tryz.prog.wantsStandIn u) = true := by kernel_rfl
        exact (show Tryz.prog.wantsStandIn t = false by simpa using List.all_eq_true.1 hall t hm)⟩)
    (by kernel_rfl)
end Go.Proofs.YtbelbhdhcgpcpaaGreatDoor.graphTells
namespace Go.Proofs.YtbelbhdhcgpcpaaGreatDoor
/-- The row, under a short name, for the claim. -/
theorem graphTells_holds : Rows.GraphTellsCardSaid := graphTells.proved
end Go.Proofs.YtbelbhdhcgpcpaaGreatDoor
