/- Plain: graphs that differ in their numbers alone; their numbered forms are one. -/
import Derived.Test.YteminkohgagedaaGreatQGrNum
import Derived.Test.YteminkohgagedaaGreatQMoMem
namespace Go.Proofs.YteminkohgagedaaGreat.Gr
open Go.RowKit Go.Proofs.YteminkohgagedaaGreat.Base
set_option linter.unusedVariables false
set_option linter.unusedSimpArgs false

/-- The whole order. -/
def ordGo (g : Gr) : Nat → Nat → List Int → List Int
  | 0, _, o => o
  | f + 1, i, o => if h : i < o.length then ordGo g f (i + 1) (meet o (nodeAt g o[i]).slots).1 else o
def ordF (g : Gr) : List Int := ordGo g (g.nodes.length + 1) 0 (meet [] g.roots).1
def ndSize (x : Nd) : Nat := 1 + x.slots.length + x.words.length
theorem cells_eq (l : List Nd) : cells l = (l.map ndSize).sum := rfl

theorem meet1_mem (o : List Int) (a : Int) : (∀ b ∈ o, b ∈ (meet1 o a).1) ∧ (a ≠ 0 → a ∈ (meet1 o a).1) ∧ ∀ b ∈ (meet1 o a).1, b ∈ o ∨ (b = a ∧ a ≠ 0) := by
  unfold meet1
  by_cases h : a = 0
  · simp [h]
  · by_cases hm : a ∈ o
    · rw [if_neg h, if_pos hm]
      exact ⟨fun b hb => hb, fun _ => hm, fun b hb => .inl hb⟩
    · rw [if_neg h, if_neg hm]
      refine ⟨fun b hb => List.mem_append.2 (.inl hb), fun _ => List.mem_append.2 (.inr (by simp)), fun b hb => ?_⟩
      rcases List.mem_append.1 hb with hb | hb
      · exact .inl hb
      · simp at hb; exact .inr ⟨hb, h⟩
theorem meet_mem (o l : List Int) : (∀ b ∈ o, b ∈ (meet o l).1) ∧ (∀ a ∈ l, a ≠ 0 → a ∈ (meet o l).1) ∧ ∀ b ∈ (meet o l).1, b ∈ o ∨ (b ∈ l ∧ b ≠ 0) := by
  induction l generalizing o with
  | nil => exact ⟨fun b hb => hb, fun a ha => absurd ha (by simp), fun b hb => .inl hb⟩
  | cons a l ih =>
    obtain ⟨h1, h2, h3⟩ := ih (meet1 o a).1
    obtain ⟨k1, k2, k3⟩ := meet1_mem o a
    refine ⟨fun b hb => h1 b (k1 b hb), fun b hb hb0 => ?_, fun b hb => ?_⟩
    · rcases List.mem_cons.1 hb with rfl | hb
      · exact h1 _ (k2 hb0)
      · exact h2 b hb hb0
    · rcases h3 b hb with h | ⟨h, h0⟩
      · rcases k3 b h with h | ⟨rfl, h0⟩
        · exact .inl h
        · exact .inr ⟨List.mem_cons_self, h0⟩
      · exact .inr ⟨List.mem_cons_of_mem _ h, h0⟩
theorem meet_pre (o l : List Int) : ∃ t, (meet o l).1 = o ++ t := by
  induction l generalizing o with
  | nil => exact ⟨[], by simp [meet]⟩
  | cons a l ih =>
    obtain ⟨t, ht⟩ := ih (meet1 o a).1
    have : ∃ s, (meet1 o a).1 = o ++ s := by
      unfold meet1
      split
      · exact ⟨[], by simp⟩
      · split
        · exact ⟨[], by simp⟩
        · exact ⟨[a], rfl⟩
    obtain ⟨s, hs⟩ := this
    refine ⟨s ++ t, ?_⟩
    show (meet (meet1 o a).1 l).1 = _
    rw [ht, hs, List.append_assoc]

theorem ordGo_pre (g : Gr) : ∀ (f i : Nat) (o : List Int), ∃ t, ordGo g f i o = o ++ t := by
  intro f
  induction f with
  | zero => intro i o; exact ⟨[], by simp [ordGo]⟩
  | succ f ih =>
    intro i o
    rw [ordGo]
    split
    · rename_i h
      obtain ⟨t, ht⟩ := ih (i + 1) (meet o (nodeAt g o[i]).slots).1
      obtain ⟨s, hs⟩ := meet_pre o (nodeAt g o[i]).slots
      exact ⟨s ++ t, by rw [ht, hs, List.append_assoc]⟩
    · exact ⟨[], by simp⟩
theorem canonGo_split (g : Gr) : ∀ (f i : Nat) (o : List Int) (out : List Nd), canonGo g f i o out = out ++ canonGo g f i o [] := by
  intro f
  induction f with
  | zero => intro i o out; simp [canonGo]
  | succ f ih =>
    intro i o out
    rw [canonGo, canonGo]
    split
    · rw [ih _ _ (out ++ _), ih _ _ ([] ++ _)]
      simp
    · simp
/-- All names of a graph are there. -/
def wellG (g : Gr) : Prop := named g.roots g.nodes.length = true ∧ ∀ x ∈ g.nodes, ndOk x g.nodes.length = true
theorem well_right {g : Gr} (h : right g = true) : wellG g := ⟨(right_parts h).2.2.1, (right_parts h).2.2.2⟩
section
variable {g : Gr} (hg : wellG g)
include hg
theorem nodeAt_ok {a : Int} (h1 : 1 ≤ a) (h2 : a ≤ g.nodes.length) : ndOk (nodeAt g a) g.nodes.length = true := by
  rw [nodeAt_eq g a h1 h2]
  exact hg.2 _ (List.getElem_mem _)
theorem ordGo_all : ∀ (f i : Nat) (o : List Int), Ord o g.nodes.length → i ≤ o.length → g.nodes.length + 1 ≤ f + i →
    Ord (ordGo g f i o) g.nodes.length ∧ (∀ b ∈ (ordGo g f i o).drop i, ∀ a ∈ (nodeAt g b).slots, a ≠ 0 → a ∈ ordGo g f i o) ∧
    cells (canonGo g f i o []) = (((ordGo g f i o).drop i).map fun b => ndSize (nodeAt g b)).sum ∧ i + (canonGo g f i o []).length = (ordGo g f i o).length ∧
    ∀ C : Int → Prop, (∀ b ∈ o, C b) → (∀ b, C b → 1 ≤ b → b ≤ g.nodes.length → ∀ a ∈ (nodeAt g b).slots, a ≠ 0 → C a) → ∀ b ∈ ordGo g f i o, C b := by
  intro f
  induction f with
  | zero => intro i o ho hi hf; have := ord_len ho; omega
  | succ f ih =>
    intro i o ho hi hf
    by_cases hlt : i < o.length
    · have ha := ho.2 o[i] (List.getElem_mem hlt)
      have hx := nodeAt_ok hg ha.1 ha.2
      have ho' := ord_meet ho (ndOk_parts hx).2.2.2
      have hgr := meet_grow o (nodeAt g o[i]).slots
      obtain ⟨q1, q2, q3, q4, q5⟩ := ih (i + 1) _ ho' (by omega) (by omega)
      have e : ordGo g (f + 1) i o = ordGo g f (i + 1) (meet o (nodeAt g o[i]).slots).1 := by rw [ordGo, dif_pos hlt]
      obtain ⟨t, ht⟩ := ordGo_pre g f (i + 1) (meet o (nodeAt g o[i]).slots).1
      obtain ⟨s, hs⟩ := meet_pre o (nodeAt g o[i]).slots
      have hget : (ordGo g f (i + 1) (meet o (nodeAt g o[i]).slots).1).drop i = o[i] :: (ordGo g f (i + 1) (meet o (nodeAt g o[i]).slots).1).drop (i + 1) := by
        have hl : i < (ordGo g f (i + 1) (meet o (nodeAt g o[i]).slots).1).length := by rw [ht, hs]; simp; omega
        rw [List.drop_eq_getElem_cons hl]
        congr 1
        have e3 : (ordGo g f (i + 1) (meet o (nodeAt g o[i]).slots).1)[i]? = o[i]? := by
          rw [ht, hs, List.append_assoc, List.getElem?_append_left hlt]
        rw [List.getElem?_eq_getElem hl, List.getElem?_eq_getElem hlt] at e3
        exact Option.some.inj e3
      rw [e]
      refine ⟨q1, ?_, ?_, ?_, ?_⟩
      · rw [hget]
        intro b hb a hba h0
        rcases List.mem_cons.1 hb with rfl | hb
        · rw [ht]
          exact List.mem_append.2 (.inl ((meet_mem o _).2.1 a hba h0))
        · exact q2 b hb a hba h0
      · rw [hget, canonGo, dif_pos hlt, canonGo_split]
        simp only [List.nil_append, List.map_cons, List.sum_cons, ← q3]
        rw [cells_eq, cells_eq, List.map_append, List.sum_append, List.map_cons, List.map_nil, List.sum_cons, List.sum_nil]
        simp [ndSize, meet_len]
      · rw [canonGo, dif_pos hlt, canonGo_split]
        simp only [List.nil_append, List.length_append, List.length_cons, List.length_nil]
        omega
      · intro C hC hcl
        refine q5 C ?_ hcl
        intro b hb
        rcases (meet_mem o _).2.2 b hb with h | ⟨h, h0⟩
        · exact hC b h
        · exact hcl o[i] (hC _ (List.getElem_mem hlt)) ha.1 ha.2 b h h0
    · have e : ordGo g (f + 1) i o = o := by rw [ordGo, dif_neg hlt]
      have e2 : canonGo g (f + 1) i o [] = [] := by rw [canonGo, dif_neg hlt]
      have hd : o.drop i = [] := List.drop_eq_nil_of_le (by omega)
      rw [e, e2, hd]
      refine ⟨ho, fun b hb => (by cases hb), rfl, by simp; omega, fun C hC _ => hC⟩
theorem ordF_all : Ord (ordF g) g.nodes.length ∧ (∀ a ∈ g.roots, a ≠ 0 → a ∈ ordF g) ∧ (∀ b ∈ ordF g, ∀ a ∈ (nodeAt g b).slots, a ≠ 0 → a ∈ ordF g) ∧
    cells (number g).nodes = ((ordF g).map fun b => ndSize (nodeAt g b)).sum ∧ (number g).nodes.length = (ordF g).length ∧
    ∀ C : Int → Prop, (∀ a ∈ g.roots, a ≠ 0 → C a) → (∀ b, C b → 1 ≤ b → b ≤ g.nodes.length → ∀ a ∈ (nodeAt g b).slots, a ≠ 0 → C a) → ∀ b ∈ ordF g, C b := by
  obtain ⟨p3, p4⟩ := hg
  obtain ⟨q1, q2, q3, q4, q5⟩ := ordGo_all ⟨p3, p4⟩ (g.nodes.length + 1) 0 (meet [] g.roots).1 (ord_meet (ord_nil _) p3) (Nat.zero_le _) (by omega)
  obtain ⟨t, ht⟩ := ordGo_pre g (g.nodes.length + 1) 0 (meet [] g.roots).1
  rw [List.drop_zero] at q2 q3
  refine ⟨q1, fun a ha h0 => ?_, q2, q3, by rw [Nat.zero_add] at q4; exact q4, fun C hC hcl => q5 C (fun b hb => ?_) hcl⟩
  · unfold ordF
    rw [ht]
    exact List.mem_append.2 (.inl ((meet_mem [] g.roots).2.1 a ha h0))
  · rcases (meet_mem [] g.roots).2.2 b hb with h | ⟨h, h0⟩
    · cases h
    · exact hC b h h0
end

/-- Two lists without repetition that have the same members have the same sum. -/
theorem sum_same {α : Type} [DecidableEq α] (v : α → Nat) : ∀ {l m : List α}, l.Nodup → m.Nodup → (∀ a, a ∈ l ↔ a ∈ m) → (l.map v).sum = (m.map v).sum ∧ l.length = m.length
  | [], m, _, _, h => by
    have : m = [] := by
      cases m with
      | nil => rfl
      | cons b m => exact absurd ((h b).2 List.mem_cons_self) (by simp)
    subst this; exact ⟨rfl, rfl⟩
  | a :: l, m, hl, hm, h => by
    have ha : a ∈ m := (h a).1 List.mem_cons_self
    obtain ⟨s, t, rfl⟩ := List.append_of_mem ha
    have hl' := List.nodup_cons.1 hl
    have hm' : (s ++ t).Nodup ∧ a ∉ s ++ t := by
      have h1 := List.nodup_append.1 hm
      have h2 := List.nodup_cons.1 h1.2.1
      refine ⟨List.nodup_append.2 ⟨h1.1, h2.2, fun x hx y hy => h1.2.2 x hx y (List.mem_cons_of_mem _ hy)⟩, fun hc => ?_⟩
      rcases List.mem_append.1 hc with hc | hc
      · exact h1.2.2 a hc a List.mem_cons_self rfl
      · exact h2.1 hc
    obtain ⟨e1, e2⟩ := sum_same v hl'.2 hm'.1 (fun b => by
      have hb := h b
      simp only [List.mem_cons, List.mem_append] at hb ⊢
      by_cases e : b = a
      · subst e
        exact ⟨fun h' => absurd h' hl'.1, fun h' => absurd (List.mem_append.2 h') hm'.2⟩
      · constructor
        · intro h'
          rcases hb.1 (.inr h') with h2 | h2 | h2
          · exact .inl h2
          · exact absurd h2 e
          · exact .inr h2
        · intro h'
          rcases hb.2 (h'.elim .inl (fun h2 => .inr (.inr h2))) with h2 | h2
          · exact absurd h2 e
          · exact h2)
    simp only [List.map_cons, List.sum_cons, List.map_append, List.sum_append, List.length_cons, List.length_append] at e1 e2 ⊢
    omega

/-- A list without repetition whose members are all in another such list has no greater sum. -/
theorem sum_sub {α : Type} [DecidableEq α] (v : α → Nat) : ∀ {l m : List α}, l.Nodup → (∀ a ∈ l, a ∈ m) → (l.map v).sum ≤ (m.map v).sum ∧ l.length ≤ m.length
  | [], m, _, _ => ⟨Nat.zero_le _, Nat.zero_le _⟩
  | a :: l, m, hl, h => by
    have ha : a ∈ m := h a List.mem_cons_self
    obtain ⟨s, t, rfl⟩ := List.append_of_mem ha
    have hl' := List.nodup_cons.1 hl
    obtain ⟨e1, e2⟩ := sum_sub v (l := l) (m := s ++ t) hl'.2 (fun b hb => by
      have hb' := h b (List.mem_cons_of_mem _ hb)
      simp only [List.mem_append, List.mem_cons] at hb' ⊢
      rcases hb' with h1 | h1 | h1
      · exact .inl h1
      · subst h1; exact absurd hb hl'.1
      · exact .inr h1)
    simp only [List.map_cons, List.sum_cons, List.map_append, List.sum_append, List.length_cons, List.length_append] at e1 e2 ⊢
    omega
/-- From more roots no less is reached. -/
theorem reach_more {g h : Gr} (hg : wellG g) (hh : wellG h) (hn : h.nodes = g.nodes) (hr : ∀ a ∈ g.roots, a ≠ 0 → a ∈ h.roots) : cells (number g).nodes ≤ cells (number h).nodes := by
  obtain ⟨a1, a2, a3, a4, a5, a6⟩ := ordF_all hg
  obtain ⟨b1, b2, b3, b4, b5, b6⟩ := ordF_all hh
  have hnd : ∀ a, nodeAt h a = nodeAt g a := fun a => by unfold nodeAt; rw [hn]
  rw [a4, b4]
  have e : ((ordF h).map fun b => ndSize (nodeAt h b)).sum = ((ordF h).map fun b => ndSize (nodeAt g b)).sum := by
    congr 1
    apply List.map_congr_left
    intro b _
    rw [hnd]
  rw [e]
  refine (sum_sub _ a1.1 ?_).1
  exact a6 (fun b => b ∈ ordF h) (fun a ha h0 => b2 a (hr a ha h0) h0) (fun b hb _ _ a ha h0 => b3 b hb a (by rw [hnd]; exact ha) h0)

end Go.Proofs.YteminkohgagedaaGreat.Gr
namespace Go.Proofs.YteminkohgagedaaGreat.Mo
open Go.RowKit Go.Proofs.YteminkohgagedaaGreat.Base Go.Proofs.YteminkohgagedaaGreat.Gr Go.Proofs.YteminkohgagedaaGreat.Ver
set_option linter.unusedVariables false
set_option linter.unusedSimpArgs false

def Al (P : Int → Int → Prop) : List Int → List Int → Prop
  | [], [] => True
  | a :: l, b :: m => P a b ∧ Al P l m
  | _, _ => False
section
variable {P Q : Int → Int → Prop} {l m : List Int}
theorem Al.len : ∀ {l m : List Int}, Al P l m → l.length = m.length
  | [], [], _ => rfl
  | a :: l, b :: m, h => by simp [Al.len h.2]
  | [], b :: m, h => h.elim
  | a :: l, [], h => h.elim
theorem Al.mono (hpq : ∀ a b, P a b → Q a b) : ∀ {l m : List Int}, Al P l m → Al Q l m
  | [], [], _ => trivial
  | a :: l, b :: m, h => ⟨hpq _ _ h.1, Al.mono hpq h.2⟩
  | [], b :: m, h => h.elim
  | a :: l, [], h => h.elim
theorem Al.snoc {a b : Int} (hab : P a b) : ∀ {l m : List Int}, Al P l m → Al P (l ++ [a]) (m ++ [b])
  | [], [], _ => ⟨hab, trivial⟩
  | x :: l, y :: m, h => ⟨h.1, Al.snoc hab h.2⟩
  | [], y :: m, h => h.elim
  | x :: l, [], h => h.elim
theorem Al.getN (h0 : P 0 0) : ∀ {l m : List Int}, Al P l m → ∀ k, P (l.getD k 0) (m.getD k 0)
  | [], [], _, k => by simpa using h0
  | a :: l, b :: m, h, 0 => h.1
  | a :: l, b :: m, h, k + 1 => by simpa using Al.getN h0 h.2 k
  | [], b :: m, h, _ => h.elim
  | a :: l, [], h, _ => h.elim
theorem Al.gt (h0 : P 0 0) (h : Al P l m) (i : Int) : P (gt l i) (gt m i) := Al.getN h0 h _
theorem Al.setN {a b : Int} (hab : P a b) : ∀ {l m : List Int}, Al P l m → ∀ k, Al P (l.set k a) (m.set k b)
  | [], [], _, k => trivial
  | x :: l, y :: m, h, 0 => ⟨hab, h.2⟩
  | x :: l, y :: m, h, k + 1 => ⟨h.1, Al.setN hab h.2 k⟩
  | [], y :: m, h, _ => h.elim
  | x :: l, [], h, _ => h.elim
theorem Al.pu {a b : Int} (h : Al P l m) (hab : P a b) (i : Int) : Al P (pu l i a) (pu m i b) := Al.setN hab h _
theorem Al.rep (h0 : P 0 0) (n : Nat) : Al P (List.replicate n 0) (List.replicate n 0) := by
  induction n with
  | zero => exact trivial
  | succ n ih => exact ⟨h0, ih⟩
theorem Al.map (f : Int → Int) : ∀ {l : List Int}, (∀ a ∈ l, P a (f a)) → Al P l (l.map f)
  | [], _ => trivial
  | a :: l, h => ⟨h a List.mem_cons_self, Al.map f (fun b hb => h b (List.mem_cons_of_mem _ hb))⟩
end

/-- Two graphs that differ in their numbers alone, as far as they are reached: P tells which node is which. -/
structure Iso (P : Int → Int → Prop) (g h : Gr) : Prop where
  zero : P 0 0
  fn : ∀ {a b c}, P a b → P a c → b = c
  inj : ∀ {a b c}, P a c → P b c → a = b
  rng : ∀ {a b}, P a b → a ≠ 0 → 1 ≤ a ∧ a ≤ g.nodes.length ∧ 1 ≤ b ∧ b ≤ h.nodes.length
  slots : ∀ {a b}, P a b → a ≠ 0 → Al P (nd g a).slots (nd h b).slots
  words : ∀ {a b}, P a b → a ≠ 0 → (nd g a).words = (nd h b).words
  roots : Al P g.roots h.roots
section
variable {P : Int → Int → Prop} {g h : Gr}
theorem Iso.nz (I : Iso P g h) {a b : Int} (hab : P a b) : a = 0 ↔ b = 0 :=
  ⟨fun e => by subst e; exact I.fn hab I.zero, fun e => by subst e; exact I.inj hab I.zero⟩
theorem Iso.eq (I : Iso P g h) {a b c d : Int} (hab : P a b) (hcd : P c d) : a = c ↔ b = d :=
  ⟨fun e => by subst e; exact I.fn hab hcd, fun e => by subst e; exact I.inj hab hcd⟩
theorem Iso.slotsLen (I : Iso P g h) {a b : Int} (hab : P a b) (h0 : a ≠ 0) : (nd g a).slots.length = (nd h b).slots.length := (I.slots hab h0).len
theorem Iso.atS (I : Iso P g h) {a b : Int} (hab : P a b) (i : Int) : atE a i (nd g a).slots = atE b i (nd h b).slots := by
  unfold atE
  by_cases h0 : a = 0
  · rw [if_pos h0, if_pos ((I.nz hab).1 h0)]
  · rw [if_neg h0, if_neg (fun e => h0 ((I.nz hab).2 e)), I.slotsLen hab h0]
theorem Iso.atW (I : Iso P g h) {a b : Int} (hab : P a b) (i : Int) : atE a i (nd g a).words = atE b i (nd h b).words := by
  unfold atE
  by_cases h0 : a = 0
  · rw [if_pos h0, if_pos ((I.nz hab).1 h0)]
  · rw [if_neg h0, if_neg (fun e => h0 ((I.nz hab).2 e)), I.words hab h0]
theorem nd_set {g : Gr} {a c : Int} (x : Nd) (ha : 1 ≤ a) (hl : a ≤ g.nodes.length) (hc : 1 ≤ c) : nd ⟨g.roots, g.nodes.set (a - 1).toNat x⟩ c = if c = a then x else nd g c := by
  unfold nd
  simp only [List.getD_eq_getElem?_getD, List.getElem?_set]
  by_cases e : c = a
  · subst e
    rw [if_pos rfl, if_pos rfl, if_pos (by omega)]
    rfl
  · rw [if_neg e, if_neg (by omega)]
/-- A slot is written. -/
theorem Iso.setSlot (I : Iso P g h) {a b v u : Int} (hab : P a b) (h0 : a ≠ 0) (hvu : P v u) (i : Int) : Iso P (setSlot g a i v) (setSlot h b i u) := by
  obtain ⟨r1, r2, r3, r4⟩ := I.rng hab h0
  refine ⟨I.zero, I.fn, I.inj, fun hcd hc => ?_, fun {c d} hcd hc => ?_, fun {c d} hcd hc => ?_, I.roots⟩
  · have := I.rng hcd hc
    simpa [Mo.setSlot] using this
  · obtain ⟨q1, q2, q3, q4⟩ := I.rng hcd hc
    unfold Mo.setSlot
    rw [nd_set _ r1 r2 q1, nd_set _ r3 r4 q3]
    by_cases e : c = a
    · rw [if_pos e, if_pos ((I.eq hcd hab).1 e)]
      exact (I.slots hab h0).pu hvu i
    · rw [if_neg e, if_neg (fun e' => e ((I.eq hcd hab).2 e'))]
      exact I.slots hcd hc
  · obtain ⟨q1, q2, q3, q4⟩ := I.rng hcd hc
    unfold Mo.setSlot
    rw [nd_set _ r1 r2 q1, nd_set _ r3 r4 q3]
    by_cases e : c = a
    · rw [if_pos e, if_pos ((I.eq hcd hab).1 e)]
      exact I.words hab h0
    · rw [if_neg e, if_neg (fun e' => e ((I.eq hcd hab).2 e'))]
      exact I.words hcd hc
/-- A word is written. -/
theorem Iso.setWord (I : Iso P g h) {a b : Int} (hab : P a b) (h0 : a ≠ 0) (i v : Int) : Iso P (setWord g a i v) (setWord h b i v) := by
  obtain ⟨r1, r2, r3, r4⟩ := I.rng hab h0
  refine ⟨I.zero, I.fn, I.inj, fun hcd hc => ?_, fun {c d} hcd hc => ?_, fun {c d} hcd hc => ?_, I.roots⟩
  · have := I.rng hcd hc
    simpa [Mo.setWord] using this
  · obtain ⟨q1, q2, q3, q4⟩ := I.rng hcd hc
    unfold Mo.setWord
    rw [nd_set _ r1 r2 q1, nd_set _ r3 r4 q3]
    by_cases e : c = a
    · rw [if_pos e, if_pos ((I.eq hcd hab).1 e)]
      exact I.slots hab h0
    · rw [if_neg e, if_neg (fun e' => e ((I.eq hcd hab).2 e'))]
      exact I.slots hcd hc
  · obtain ⟨q1, q2, q3, q4⟩ := I.rng hcd hc
    unfold Mo.setWord
    rw [nd_set _ r1 r2 q1, nd_set _ r3 r4 q3]
    by_cases e : c = a
    · rw [if_pos e, if_pos ((I.eq hcd hab).1 e)]
      show pu (nd g a).words i v = pu (nd h b).words i v
      rw [I.words hab h0]
    · rw [if_neg e, if_neg (fun e' => e ((I.eq hcd hab).2 e'))]
      exact I.words hcd hc
theorem Iso.root (I : Iso P g h) {v u : Int} (hvu : P v u) (i : Int) : Iso P ⟨pu g.roots i v, g.nodes⟩ ⟨pu h.roots i u, h.nodes⟩ :=
  ⟨I.zero, I.fn, I.inj, I.rng, I.slots, I.words, I.roots.pu hvu i⟩
/-- A new object. -/
theorem Iso.made (I : Iso P g h) (s w : Int) : Iso (fun a b => P a b ∨ (a = (g.nodes.length : Int) + 1 ∧ b = (h.nodes.length : Int) + 1)) (mkN g s w) (mkN h s w) := by
  have hout : ∀ {a b : Int}, P a b → a ≤ g.nodes.length ∧ b ≤ h.nodes.length := fun {a b} hab => by
    by_cases h0 : a = 0
    · have := (I.nz hab).1 h0; omega
    · have := I.rng hab h0; omega
  have hold : ∀ {g : Gr} {a : Int}, 1 ≤ a → a ≤ g.nodes.length → nd (mkN g s w) a = nd g a := fun {g a} h1 h2 => by
    unfold nd mkN
    simp only [List.getD_eq_getElem?_getD]
    rw [List.getElem?_append_left (by omega)]
  have hnew : ∀ (g : Gr), nd (mkN g s w) ((g.nodes.length : Int) + 1) = ⟨List.replicate s.toNat 0, List.replicate w.toNat 0⟩ := fun g => by
    unfold nd mkN
    simp only [List.getD_eq_getElem?_getD]
    rw [List.getElem?_append_right (by omega)]
    have : ((g.nodes.length : Int) + 1 - 1).toNat - g.nodes.length = 0 := by omega
    rw [this]
    rfl
  refine ⟨.inl I.zero, ?_, ?_, ?_, ?_, ?_, I.roots.mono (fun _ _ h => .inl h)⟩
  · rintro a b c (h1 | ⟨h1, h2⟩) (h3 | ⟨h3, h4⟩)
    · exact I.fn h1 h3
    · have := (hout h1).1; omega
    · have := (hout h3).1; omega
    · omega
  · rintro a b c (h1 | ⟨h1, h2⟩) (h3 | ⟨h3, h4⟩)
    · exact I.inj h1 h3
    · have := (hout h1).2; omega
    · have := (hout h3).2; omega
    · omega
  · rintro a b (h1 | ⟨h1, h2⟩) h0
    · have := I.rng h1 h0
      simp only [mkN, List.length_append, List.length_cons, List.length_nil]
      omega
    · simp only [mkN, List.length_append, List.length_cons, List.length_nil]
      omega
  · rintro a b (h1 | ⟨h1, h2⟩) h0
    · obtain ⟨q1, q2, q3, q4⟩ := I.rng h1 h0
      rw [hold q1 q2, hold q3 q4]
      exact (I.slots h1 h0).mono (fun _ _ h => .inl h)
    · subst h1 h2
      rw [hnew, hnew]
      exact Al.rep (.inl I.zero) _
  · rintro a b (h1 | ⟨h1, h2⟩) h0
    · obtain ⟨q1, q2, q3, q4⟩ := I.rng h1 h0
      rw [hold q1 q2, hold q3 q4]
      exact I.words h1 h0
    · subst h1 h2
      rw [hnew, hnew]
end
end Go.Proofs.YteminkohgagedaaGreat.Mo
