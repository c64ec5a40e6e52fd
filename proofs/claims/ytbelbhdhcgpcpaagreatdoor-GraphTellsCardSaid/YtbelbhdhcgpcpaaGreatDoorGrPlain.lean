/- Plain words for graphs, and how a graph lies in memory. -/
import Derived.Test.YtbelbhdhcgpcpaaGreatDoorBase
import Derived.Test.YtbelbhdhcgpcpaaGreatDoorProg
namespace Go.Proofs.YtbelbhdhcgpcpaaGreatDoor.Gr
open Go.RowKit Go.Proofs.YtbelbhdhcgpcpaaGreatDoor.Base
set_option linter.unusedVariables false
set_option linter.unusedSimpArgs false

/-- A node: its slots, its words. -/
structure Nd where
  slots : List Int
  words : List Int
deriving DecidableEq
/-- A graph. -/
structure Gr where
  roots : List Int
  nodes : List Nd
deriving DecidableEq

theorem below_drewN {B : Nat} {w w' : World} (h : Below B w w') (n : Nat) : Below B w (w'.drewN n) := ⟨h.os, h.tape, h.output, h.size, h.block⟩
/-- A number as a cell. -/
def ic (v : Int) : List Value := [.int .i64 v]
theorem ic_len (v : Int) : (ic v).length = 1 := rfl
theorem enc_ic (l : List Int) : enc ic l = l.map (Value.int .i64) := by
  induction l with
  | nil => rfl
  | cons x l ih => simp only [enc, List.flatMap_cons, List.map_cons] at *; rw [ih]; rfl
/-- A slice that reads as numbers. -/
def Ints (w : World) (A : Option Addr) (l : List Int) : Prop := Arr w ic 1 A l ∧ l.length ≤ 17592186044416
theorem Ints.below {w w' : World} {A : Option Addr} {l : List Int} (h : Ints w A l) (hb : Below w.heap.size w w') : Ints w' A l := ⟨Arr.below h.1 hb, h.2⟩
theorem Ints.at_ {w : World} {A : Option Addr} {l : List Int} (h : Ints w A l) (i : Nat) (hi : i < l.length) : ∃ ad, A = some ad ∧ w.cell? (ad.add i) = some (.int .i64 l[i]) := by
  obtain ⟨ad, e, hc⟩ := Arr.at_ h.1 ic_len i hi (by omega)
  refine ⟨ad, e, ?_⟩
  have := hc 0 (.int .i64 l[i]) rfl
  simpa using this
theorem Ints.nil (w : World) : Ints w none [] := ⟨Reads.none_, by simp⟩
theorem Ints.of_own {w : World} {base : Nat} {e : TypeId} {c n : Nat} {A : Option Addr} {l : List Int} (h : w.ownsRow base e 1 (.slice A n c) n (enc ic l)) (hn : n ≤ 17592186044416) : Ints w A l := by
  have hl : n = l.length := by have := h.1; rw [enc_len ic_len] at this; omega
  subst hl
  exact ⟨Reads.of_own h, hn⟩

/-- A node's two slices at an address. -/
def NdAt (w : World) (a : Addr) (x : Nd) : Prop :=
  ∃ A c B d, w.cell? a = some (.slice A x.slots.length c) ∧ w.cell? ⟨a.block, a.off + 1, none⟩ = some (.slice B x.words.length d) ∧ Ints w A x.slots ∧ Ints w B x.words
theorem NdAt.below {w w' : World} {a : Addr} {x : Nd} (h : NdAt w a x) (hb : Below w.heap.size w w') : NdAt w' a x := by
  obtain ⟨A, c, B, d, h1, h2, h3, h4⟩ := h
  exact ⟨A, c, B, d, (hb.cell (cell_lt h1)).trans h1, (hb.cell (cell_lt h2)).trans h2, h3.below hb, h4.below hb⟩
/-- A slice that reads as nodes. -/
def Nodes (w : World) (B : Option Addr) (l : List Nd) : Prop := l.length ≤ 17592186044416 ∧ ∀ i, (h : i < l.length) → ∃ ad, B = some ad ∧ NdAt w (ad.add (i * 2)) l[i]
theorem Nodes.below {w w' : World} {B : Option Addr} {l : List Nd} (h : Nodes w B l) (hb : Below w.heap.size w w') : Nodes w' B l := ⟨h.1, fun i hi => by
  obtain ⟨ad, e, hn⟩ := h.2 i hi
  exact ⟨ad, e, hn.below hb⟩⟩
/-- A graph by value. -/
def GrV (w : World) (v : Value) (g : Gr) : Prop :=
  ∃ A c B d, v = .agg #[.slice A g.roots.length c, .slice B g.nodes.length d] ∧ Ints w A g.roots ∧ Nodes w B g.nodes
theorem GrV.below {w w' : World} {v : Value} {g : Gr} (h : GrV w v g) (hb : Below w.heap.size w w') : GrV w' v g := by
  obtain ⟨A, c, B, d, e, h1, h2⟩ := h
  exact ⟨A, c, B, d, e, h1.below hb, h2.below hb⟩
/-- A node by value. -/
def NdV (w : World) (v : Value) (x : Nd) : Prop :=
  ∃ A c B d, v = .agg #[.slice A x.slots.length c, .slice B x.words.length d] ∧ Ints w A x.slots ∧ Ints w B x.words
theorem NdV.below {w w' : World} {v : Value} {x : Nd} (h : NdV w v x) (hb : Below w.heap.size w w') : NdV w' v x := by
  obtain ⟨A, c, B, d, e, h1, h2⟩ := h
  exact ⟨A, c, B, d, e, h1.below hb, h2.below hb⟩

/-- All numbers name nodes, or none. -/
def named (l : List Int) (n : Int) : Bool := l.all fun a => decide (0 ≤ a) && decide (a ≤ n)
def wordsOk (l : List Int) : Bool := l.all fun v => decide (0 ≤ v) && decide (v < 4294967296)
def ndOk (x : Nd) (n : Int) : Bool := decide (x.slots.length ≤ 15) && decide (x.words.length ≤ 30) && wordsOk x.words && named x.slots n
def right (g : Gr) : Bool := decide (g.roots.length = 8) && decide (g.nodes.length ≤ 1000) && named g.roots g.nodes.length && g.nodes.all fun x => ndOk x g.nodes.length

theorem all_upto {α : Type} {p : α → Bool} {l : List α} (h : ∀ j, (hj : j < l.length) → p l[j] = true) : l.all p = true := by
  rw [List.all_eq_true]
  intro x hx
  obtain ⟨j, hj, rfl⟩ := List.getElem_of_mem hx
  exact h j hj
theorem all_bad {α : Type} {p : α → Bool} {l : List α} (j : Nat) (hj : j < l.length) (h : p l[j] = false) : l.all p = false := by
  rw [List.all_eq_false]
  exact ⟨l[j], List.getElem_mem hj, by rw [h]; simp⟩

end Go.Proofs.YtbelbhdhcgpcpaaGreatDoor.Gr
