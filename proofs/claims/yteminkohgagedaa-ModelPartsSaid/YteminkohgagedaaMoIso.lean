/- Plain: graphs that differ in their numbers alone; their numbered forms are one. -/
import Derived.Test.YteminkohgagedaaMoPlain
import Derived.Test.YteminkohgagedaaGrOrd
namespace Go.Proofs.Yteminkohgagedaa.Mo
open Go.RowKit Go.Proofs.Yteminkohgagedaa.Base Go.Proofs.Yteminkohgagedaa.Gr Go.Proofs.Yteminkohgagedaa.Ver
set_option linter.unusedVariables false
set_option linter.unusedSimpArgs false

def Al (P : Int → Int → Prop) : List Int → List Int → Prop
  | [], [] => True
  | a :: l, b :: m => P a b ∧ Al P l m
  | _, _ => False
section
variable {P Q : Int → Int → Prop} {l m : List Int}
theorem Al.len : ∀ {l m : List Int}, Al P l m → l.length = m.length
  | [], [], _ => rfl
  | a :: l, b :: m, h => by simp [Al.len h.2]
  | [], b :: m, h => h.elim
  | a :: l, [], h => h.elim
theorem Al.mono (hpq : ∀ a b, P a b → Q a b) : ∀ {l m : List Int}, Al P l m → Al Q l m
  | [], [], _ => trivial
  | a :: l, b :: m, h => ⟨hpq _ _ h.1, Al.mono hpq h.2⟩
  | [], b :: m, h => h.elim
  | a :: l, [], h => h.elim
theorem Al.snoc {a b : Int} (hab : P a b) : ∀ {l m : List Int}, Al P l m → Al P (l ++ [a]) (m ++ [b])
  | [], [], _ => ⟨hab, trivial⟩
  | x :: l, y :: m, h => ⟨h.1, Al.snoc hab h.2⟩
  | [], y :: m, h => h.elim
  | x :: l, [], h => h.elim
theorem Al.getN (h0 : P 0 0) : ∀ {l m : List Int}, Al P l m → ∀ k, P (l.getD k 0) (m.getD k 0)
  | [], [], _, k => by simpa using h0
  | a :: l, b :: m, h, 0 => h.1
  | a :: l, b :: m, h, k + 1 => by simpa using Al.getN h0 h.2 k
  | [], b :: m, h, _ => h.elim
  | a :: l, [], h, _ => h.elim
theorem Al.gt (h0 : P 0 0) (h : Al P l m) (i : Int) : P (gt l i) (gt m i) := Al.getN h0 h _
theorem Al.setN {a b : Int} (hab : P a b) : ∀ {l m : List Int}, Al P l m → ∀ k, Al P (l.set k a) (m.set k b)
  | [], [], _, k => trivial
  | x :: l, y :: m, h, 0 => ⟨hab, h.2⟩
  | x :: l, y :: m, h, k + 1 => ⟨h.1, Al.setN hab h.2 k⟩
  | [], y :: m, h, _ => h.elim
  | x :: l, [], h, _ => h.elim
theorem Al.pu {a b : Int} (h : Al P l m) (hab : P a b) (i : Int) : Al P (pu l i a) (pu m i b) := Al.setN hab h _
theorem Al.rep (h0 : P 0 0) (n : Nat) : Al P (List.replicate n 0) (List.replicate n 0) := by
  induction n with
  | zero => exact trivial
  | succ n ih => exact ⟨h0, ih⟩
theorem Al.map (f : Int → Int) : ∀ {l : List Int}, (∀ a ∈ l, P a (f a)) → Al P l (l.map f)
  | [], _ => trivial
  | a :: l, h => ⟨h a List.mem_cons_self, Al.map f (fun b hb => h b (List.mem_cons_of_mem _ hb))⟩
end

/-- Two graphs that differ in their numbers alone, as far as they are reached: P tells which node is which. -/
structure Iso (P : Int → Int → Prop) (g h : Gr) : Prop where
  zero : P 0 0
  fn : ∀ {a b c}, P a b → P a c → b = c
  inj : ∀ {a b c}, P a c → P b c → a = b
  rng : ∀ {a b}, P a b → a ≠ 0 → 1 ≤ a ∧ a ≤ g.nodes.length ∧ 1 ≤ b ∧ b ≤ h.nodes.length
  slots : ∀ {a b}, P a b → a ≠ 0 → Al P (nd g a).slots (nd h b).slots
  words : ∀ {a b}, P a b → a ≠ 0 → (nd g a).words = (nd h b).words
  roots : Al P g.roots h.roots
section
variable {P : Int → Int → Prop} {g h : Gr}
theorem Iso.nz (I : Iso P g h) {a b : Int} (hab : P a b) : a = 0 ↔ b = 0 :=
  ⟨fun e => by subst e; exact I.fn hab I.zero, fun e => by subst e; exact I.inj hab I.zero⟩
theorem Iso.eq (I : Iso P g h) {a b c d : Int} (hab : P a b) (hcd : P c d) : a = c ↔ b = d :=
  ⟨fun e => by subst e; exact I.fn hab hcd, fun e => by subst e; exact I.inj hab hcd⟩
theorem Iso.slotsLen (I : Iso P g h) {a b : Int} (hab : P a b) (h0 : a ≠ 0) : (nd g a).slots.length = (nd h b).slots.length := (I.slots hab h0).len
theorem Iso.atS (I : Iso P g h) {a b : Int} (hab : P a b) (i : Int) : atE a i (nd g a).slots = atE b i (nd h b).slots := by
  unfold atE
  by_cases h0 : a = 0
  · rw [if_pos h0, if_pos ((I.nz hab).1 h0)]
  · rw [if_neg h0, if_neg (fun e => h0 ((I.nz hab).2 e)), I.slotsLen hab h0]
theorem Iso.atW (I : Iso P g h) {a b : Int} (hab : P a b) (i : Int) : atE a i (nd g a).words = atE b i (nd h b).words := by
  unfold atE
  by_cases h0 : a = 0
  · rw [if_pos h0, if_pos ((I.nz hab).1 h0)]
  · rw [if_neg h0, if_neg (fun e => h0 ((I.nz hab).2 e)), I.words hab h0]
theorem nd_set {g : Gr} {a c : Int} (x : Nd) (ha : 1 ≤ a) (hl : a ≤ g.nodes.length) (hc : 1 ≤ c) : nd ⟨g.roots, g.nodes.set (a - 1).toNat x⟩ c = if c = a then x else nd g c := by
  unfold nd
  simp only [List.getD_eq_getElem?_getD, List.getElem?_set]
  by_cases e : c = a
  · subst e
    rw [if_pos rfl, if_pos rfl, if_pos (by omega)]
    rfl
  · rw [if_neg e, if_neg (by omega)]
/-- A slot is written. -/
theorem Iso.setSlot (I : Iso P g h) {a b v u : Int} (hab : P a b) (h0 : a ≠ 0) (hvu : P v u) (i : Int) : Iso P (setSlot g a i v) (setSlot h b i u) := by
  obtain ⟨r1, r2, r3, r4⟩ := I.rng hab h0
  refine ⟨I.zero, I.fn, I.inj, fun hcd hc => ?_, fun {c d} hcd hc => ?_, fun {c d} hcd hc => ?_, I.roots⟩
  · have := I.rng hcd hc
    simpa [Mo.setSlot] using this
  · obtain ⟨q1, q2, q3, q4⟩ := I.rng hcd hc
    unfold Mo.setSlot
    rw [nd_set _ r1 r2 q1, nd_set _ r3 r4 q3]
    by_cases e : c = a
    · rw [if_pos e, if_pos ((I.eq hcd hab).1 e)]
      exact (I.slots hab h0).pu hvu i
    · rw [if_neg e, if_neg (fun e' => e ((I.eq hcd hab).2 e'))]
      exact I.slots hcd hc
  · obtain ⟨q1, q2, q3, q4⟩ := I.rng hcd hc
    unfold Mo.setSlot
    rw [nd_set _ r1 r2 q1, nd_set _ r3 r4 q3]
    by_cases e : c = a
    · rw [if_pos e, if_pos ((I.eq hcd hab).1 e)]
      exact I.words hab h0
    · rw [if_neg e, if_neg (fun e' => e ((I.eq hcd hab).2 e'))]
      exact I.words hcd hc
/-- A word is written. -/
theorem Iso.setWord (I : Iso P g h) {a b : Int} (hab : P a b) (h0 : a ≠ 0) (i v : Int) : Iso P (setWord g a i v) (setWord h b i v) := by
  obtain ⟨r1, r2, r3, r4⟩ := I.rng hab h0
  refine ⟨I.zero, I.fn, I.inj, fun hcd hc => ?_, fun {c d} hcd hc => ?_, fun {c d} hcd hc => ?_, I.roots⟩
  · have := I.rng hcd hc
    simpa [Mo.setWord] using this
  · obtain ⟨q1, q2, q3, q4⟩ := I.rng hcd hc
    unfold Mo.setWord
    rw [nd_set _ r1 r2 q1, nd_set _ r3 r4 q3]
    by_cases e : c = a
    · rw [if_pos e, if_pos ((I.eq hcd hab).1 e)]
      exact I.slots hab h0
    · rw [if_neg e, if_neg (fun e' => e ((I.eq hcd hab).2 e'))]
      exact I.slots hcd hc
  · obtain ⟨q1, q2, q3, q4⟩ := I.rng hcd hc
    unfold Mo.setWord
    rw [nd_set _ r1 r2 q1, nd_set _ r3 r4 q3]
    by_cases e : c = a
    · rw [if_pos e, if_pos ((I.eq hcd hab).1 e)]
      show pu (nd g a).words i v = pu (nd h b).words i v
      rw [I.words hab h0]
    · rw [if_neg e, if_neg (fun e' => e ((I.eq hcd hab).2 e'))]
      exact I.words hcd hc
theorem Iso.root (I : Iso P g h) {v u : Int} (hvu : P v u) (i : Int) : Iso P ⟨pu g.roots i v, g.nodes⟩ ⟨pu h.roots i u, h.nodes⟩ :=
  ⟨I.zero, I.fn, I.inj, I.rng, I.slots, I.words, I.roots.pu hvu i⟩
/-- A new object. -/
theorem Iso.made (I : Iso P g h) (s w : Int) : Iso (fun a b => P a b ∨ (a = (g.nodes.length : Int) + 1 ∧ b = (h.nodes.length : Int) + 1)) (mkN g s w) (mkN h s w) := by
  have hout : ∀ {a b : Int}, P a b → a ≤ g.nodes.length ∧ b ≤ h.nodes.length := fun {a b} hab => by
    by_cases h0 : a = 0
    · have := (I.nz hab).1 h0; omega
    · have := I.rng hab h0; omega
  have hold : ∀ {g : Gr} {a : Int}, 1 ≤ a → a ≤ g.nodes.length → nd (mkN g s w) a = nd g a := fun {g a} h1 h2 => by
    unfold nd mkN
    simp only [List.getD_eq_getElem?_getD]
    rw [List.getElem?_append_left (by omega)]
  have hnew : ∀ (g : Gr), nd (mkN g s w) ((g.nodes.length : Int) + 1) = ⟨List.replicate s.toNat 0, List.replicate w.toNat 0⟩ := fun g => by
    unfold nd mkN
    simp only [List.getD_eq_getElem?_getD]
    rw [List.getElem?_append_right (by omega)]
    have : ((g.nodes.length : Int) + 1 - 1).toNat - g.nodes.length = 0 := by omega
    rw [this]
    rfl
  refine ⟨.inl I.zero, ?_, ?_, ?_, ?_, ?_, I.roots.mono (fun _ _ h => .inl h)⟩
  · rintro a b c (h1 | ⟨h1, h2⟩) (h3 | ⟨h3, h4⟩)
    · exact I.fn h1 h3
    · have := (hout h1).1; omega
    · have := (hout h3).1; omega
    · omega
  · rintro a b c (h1 | ⟨h1, h2⟩) (h3 | ⟨h3, h4⟩)
    · exact I.inj h1 h3
    · have := (hout h1).2; omega
    · have := (hout h3).2; omega
    · omega
  · rintro a b (h1 | ⟨h1, h2⟩) h0
    · have := I.rng h1 h0
      simp only [mkN, List.length_append, List.length_cons, List.length_nil]
      omega
    · simp only [mkN, List.length_append, List.length_cons, List.length_nil]
      omega
  · rintro a b (h1 | ⟨h1, h2⟩) h0
    · obtain ⟨q1, q2, q3, q4⟩ := I.rng h1 h0
      rw [hold q1 q2, hold q3 q4]
      exact (I.slots h1 h0).mono (fun _ _ h => .inl h)
    · subst h1 h2
      rw [hnew, hnew]
      exact Al.rep (.inl I.zero) _
  · rintro a b (h1 | ⟨h1, h2⟩) h0
    · obtain ⟨q1, q2, q3, q4⟩ := I.rng h1 h0
      rw [hold q1 q2, hold q3 q4]
      exact I.words h1 h0
    · subst h1 h2
      rw [hnew, hnew]
end
end Go.Proofs.Yteminkohgagedaa.Mo
