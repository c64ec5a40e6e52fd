/- Plain words: numbering a graph's nodes as they are met. -/
import Derived.Test.YtbelbhdhcgpcpaaGreatDoorGrPlain
namespace Go.Proofs.YtbelbhdhcgpcpaaGreatDoor.Gr
open Go.RowKit Go.Proofs.YtbelbhdhcgpcpaaGreatDoor.Base
set_option linter.unusedVariables false
set_option linter.unusedSimpArgs false

/-- The new number of a node; 0: not met yet. -/
def placeOf (o : List Int) (a : Int) : Int := if a ∈ o then (o.findIdx (· == a) : Int) + 1 else 0
def meet1 (o : List Int) (a : Int) : List Int × Int :=
  if a = 0 then (o, 0) else if a ∈ o then (o, placeOf o a) else (o ++ [a], (o.length : Int) + 1)
def meet (o : List Int) : List Int → List Int × List Int
  | [] => (o, [])
  | a :: l => ((meet (meet1 o a).1 l).1, (meet1 o a).2 :: (meet (meet1 o a).1 l).2)
theorem meet_snoc (o l : List Int) (a : Int) : meet o (l ++ [a]) = ((meet1 (meet o l).1 a).1, (meet o l).2 ++ [(meet1 (meet o l).1 a).2]) := by
  induction l generalizing o with
  | nil => simp [meet]
  | cons b l ih => simp [meet, ih]
theorem meet_len (o l : List Int) : (meet o l).2.length = l.length := by
  induction l generalizing o with
  | nil => rfl
  | cons b l ih => simp [meet, ih]

theorem placeOf_zero {o : List Int} {a : Int} : placeOf o a = 0 ↔ a ∉ o := by
  unfold placeOf
  by_cases h : a ∈ o
  · simp only [h, if_true, not_true, iff_false]; omega
  · simp [h]
theorem placeOf_snoc {o : List Int} {a : Int} (h : a ∉ o) (b : Int) : placeOf (o ++ [a]) b = if b = a then (o.length : Int) + 1 else placeOf o b := by
  unfold placeOf
  by_cases hb : b = a
  · subst hb
    have : o.findIdx (· == b) = o.length := by
      rw [List.findIdx_eq_length]
      intro x hx
      simp only [beq_eq_false_iff_ne, ne_eq]
      rintro rfl
      exact h hx
    simp [List.findIdx_append, this]
  · simp only [hb, if_false, List.mem_append, List.mem_singleton, or_false]
    by_cases hm : b ∈ o
    · have hlt : o.findIdx (· == b) < o.length := List.findIdx_lt_length_of_exists ⟨b, hm, by simp⟩
      simp [hm, List.findIdx_append, hlt]
    · simp [hm]

/-- An order of nodes: each once, and there. -/
def Ord (o : List Int) (n : Nat) : Prop := o.Nodup ∧ ∀ a ∈ o, 1 ≤ a ∧ a ≤ n
theorem ord_nil (n : Nat) : Ord [] n := ⟨List.nodup_nil, fun a h => by cases h⟩
theorem ord_len {o : List Int} {n : Nat} (h : Ord o n) : o.length ≤ n := by
  induction n generalizing o with
  | zero =>
    cases o with
    | nil => simp
    | cons a o => have := h.2 a (by simp); omega
  | succ n ih =>
    have h1 : Ord (o.erase ((n : Int) + 1)) n := ⟨h.1.erase _, fun a ha => by
      have := (h.1.mem_erase_iff).1 ha
      have h2 := h.2 a this.2
      have h3 := this.1
      omega⟩
    have h2 := ih h1
    have h3 := List.length_erase (a := (n : Int) + 1) (l := o)
    split at h3 <;> omega
theorem ord_meet1 {o : List Int} {n : Nat} {a : Int} (h : Ord o n) (h0 : 0 ≤ a) (h1 : a ≤ n) : Ord (meet1 o a).1 n := by
  unfold meet1
  by_cases ha : a = 0
  · simp [ha, h]
  · by_cases hm : a ∈ o
    · simp [ha, hm, h]
    · simp only [ha, hm, if_false]
      refine ⟨List.nodup_append.2 ⟨h.1, by simp, ?_⟩, ?_⟩
      · intro x hx y hy
        simp at hy
        subst hy
        rintro rfl
        exact hm hx
      · intro x hx
        simp at hx
        rcases hx with hx | rfl
        · exact h.2 x hx
        · omega
theorem named_cons {a : Int} {l : List Int} {n : Int} : named (a :: l) n = true ↔ (0 ≤ a ∧ a ≤ n) ∧ named l n = true := by
  simp [named, and_assoc]
theorem named_get {l : List Int} {n : Int} (h : named l n = true) (i : Nat) (hi : i < l.length) : 0 ≤ l[i] ∧ l[i] ≤ n := by
  have := List.all_eq_true.1 h l[i] (List.getElem_mem hi)
  simpa using this
theorem ord_meet {o l : List Int} {n : Nat} (h : Ord o n) (hl : named l n = true) : Ord (meet o l).1 n := by
  induction l generalizing o with
  | nil => exact h
  | cons a l ih =>
    rw [named_cons] at hl
    exact ih (ord_meet1 h hl.1.1 hl.1.2) hl.2
theorem named_take {l : List Int} {n : Int} (h : named l n = true) (k : Nat) : named (l.take k) n = true := by
  rw [named, List.all_eq_true] at *
  exact fun x hx => h x (List.mem_of_mem_take hx)

/-- All new numbers. -/
def places (o : List Int) (n : Nat) : Array Value := ((List.range (n + 1)).map fun i : Nat => Value.int .i64 (placeOf o (i : Int))).toArray
theorem places_get (o : List Int) (n : Nat) (a : Int) (h0 : 0 ≤ a) (h1 : a ≤ n) : (places o n)[a.toNat]? = some (.int .i64 (placeOf o a)) := by
  have : ((a.toNat : Nat) : Int) = a := by omega
  have h2 : a.toNat < n + 1 := by omega
  simp [places, h2, this]
theorem places_set (o : List Int) (n : Nat) (a : Int) (h0 : 0 ≤ a) (h1 : a ≤ n) (hm : a ∉ o) : (places o n).setIfInBounds a.toNat (.int .i64 ((o.length : Int) + 1)) = places (o ++ [a]) n := by
  apply Array.ext
  · simp [places]
  · intro i hi1 hi2
    have hi : i < n + 1 := by simpa [places] using hi2
    rw [Array.getElem_setIfInBounds]
    · simp only [places, List.getElem_toArray, List.getElem_map, List.getElem_range, placeOf_snoc hm]
      by_cases e : a.toNat = i
      · have : (i : Int) = a := by omega
        simp [e, this]
      · have : (i : Int) ≠ a := by omega
        simp [e, this]
    · simpa [places] using hi
theorem places_nil (n : Nat) : places [] n = (List.replicate (n + 1) (Value.int .i64 0)).toArray := by
  unfold places
  congr 1
  apply List.ext_getElem
  · simp
  · intro i h1 h2
    simp [placeOf]

/-- The walk over the order: fuel, place, what was met, what was built. -/
def nodeAt (g : Gr) (a : Int) : Nd := g.nodes.getD (a.toNat - 1) ⟨[], []⟩
def canonGo (g : Gr) : Nat → Nat → List Int → List Nd → List Nd
  | 0, _, _, out => out
  | f + 1, i, o, out =>
    if h : i < o.length then canonGo g f (i + 1) (meet o (nodeAt g o[i]).slots).1 (out ++ [⟨(meet o (nodeAt g o[i]).slots).2, (nodeAt g o[i]).words⟩]) else out
def number (g : Gr) : Gr := ⟨(meet [] g.roots).2, canonGo g (g.nodes.length + 1) 0 (meet [] g.roots).1 []⟩
def canon (g : Gr) : Gr := if right g then number g else g
def cells (l : List Nd) : Nat := (l.map fun x => 1 + x.slots.length + x.words.length).sum
def size (g : Gr) : Nat := if right g then cells (canon g).nodes else 0
def same (g h : Gr) : Bool := right g && right h && decide (canon g = canon h)

end Go.Proofs.YtbelbhdhcgpcpaaGreatDoor.Gr
