/- Plain words for instructions and programs: an instruction's cells, whether it may be in a program of so many ('one'), whether a program may be ('chk'). No program and no memory in it. -/
import Derived.Test.YteminkohgagedaaGreatQBase
import Derived.Test.YteminkohgagedaaGreatProg
namespace Go.Proofs.YteminkohgagedaaGreat.Gr
open Go.RowKit Go.Proofs.YteminkohgagedaaGreat.Base
set_option linter.unusedVariables false
set_option linter.unusedSimpArgs false

/-- A node: its slots, its words. -/
structure Nd where
  slots : List Int
  words : List Int
deriving DecidableEq
/-- A graph. -/
structure Gr where
  roots : List Int
  nodes : List Nd
deriving DecidableEq

theorem below_drewN {B : Nat} {w w' : World} (h : Below B w w') (n : Nat) : Below B w (w'.drewN n) := ⟨h.os, h.tape, h.output, h.size, h.block⟩
/-- A number as a cell. -/
def ic (v : Int) : List Value := [.int .i64 v]
theorem ic_len (v : Int) : (ic v).length = 1 := rfl
theorem enc_ic (l : List Int) : enc ic l = l.map (Value.int .i64) := by
  induction l with
  | nil => rfl
  | cons x l ih => simp only [enc, List.flatMap_cons, List.map_cons] at *; rw [ih]; rfl
/-- A slice that reads as numbers. -/
def Ints (w : World) (A : Option Addr) (l : List Int) : Prop := Arr w ic 1 A l ∧ l.length ≤ 17592186044416
theorem Ints.below {w w' : World} {A : Option Addr} {l : List Int} (h : Ints w A l) (hb : Below w.heap.size w w') : Ints w' A l := ⟨Arr.below h.1 hb, h.2⟩
theorem Ints.at_ {w : World} {A : Option Addr} {l : List Int} (h : Ints w A l) (i : Nat) (hi : i < l.length) : ∃ ad, A = some ad ∧ w.cell? (ad.add i) = some (.int .i64 l[i]) := by
  obtain ⟨ad, e, hc⟩ := Arr.at_ h.1 ic_len i hi (by omega)
  refine ⟨ad, e, ?_⟩
  have := hc 0 (.int .i64 l[i]) rfl
  simpa using this
theorem Ints.nil (w : World) : Ints w none [] := ⟨Reads.none_, by simp⟩
theorem Ints.of_own {w : World} {base : Nat} {e : TypeId} {c n : Nat} {A : Option Addr} {l : List Int} (h : w.ownsRow base e 1 (.slice A n c) n (enc ic l)) (hn : n ≤ 17592186044416) : Ints w A l := by
  have hl : n = l.length := by have := h.1; rw [enc_len ic_len] at this; omega
  subst hl
  exact ⟨Reads.of_own h, hn⟩

/-- A node's two slices at an address. -/
def NdAt (w : World) (a : Addr) (x : Nd) : Prop :=
  ∃ A c B d, w.cell? a = some (.slice A x.slots.length c) ∧ w.cell? ⟨a.block, a.off + 1, none⟩ = some (.slice B x.words.length d) ∧ Ints w A x.slots ∧ Ints w B x.words
theorem NdAt.below {w w' : World} {a : Addr} {x : Nd} (h : NdAt w a x) (hb : Below w.heap.size w w') : NdAt w' a x := by
  obtain ⟨A, c, B, d, h1, h2, h3, h4⟩ := h
  exact ⟨A, c, B, d, (hb.cell (cell_lt h1)).trans h1, (hb.cell (cell_lt h2)).trans h2, h3.below hb, h4.below hb⟩
/-- A slice that reads as nodes. -/
def Nodes (w : World) (B : Option Addr) (l : List Nd) : Prop := l.length ≤ 17592186044416 ∧ ∀ i, (h : i < l.length) → ∃ ad, B = some ad ∧ NdAt w (ad.add (i * 2)) l[i]
theorem Nodes.below {w w' : World} {B : Option Addr} {l : List Nd} (h : Nodes w B l) (hb : Below w.heap.size w w') : Nodes w' B l := ⟨h.1, fun i hi => by
  obtain ⟨ad, e, hn⟩ := h.2 i hi
  exact ⟨ad, e, hn.below hb⟩⟩
/-- A graph by value. -/
def GrV (w : World) (v : Value) (g : Gr) : Prop :=
  ∃ A c B d, v = .agg #[.slice A g.roots.length c, .slice B g.nodes.length d] ∧ Ints w A g.roots ∧ Nodes w B g.nodes
theorem GrV.below {w w' : World} {v : Value} {g : Gr} (h : GrV w v g) (hb : Below w.heap.size w w') : GrV w' v g := by
  obtain ⟨A, c, B, d, e, h1, h2⟩ := h
  exact ⟨A, c, B, d, e, h1.below hb, h2.below hb⟩
/-- A node by value. -/
def NdV (w : World) (v : Value) (x : Nd) : Prop :=
  ∃ A c B d, v = .agg #[.slice A x.slots.length c, .slice B x.words.length d] ∧ Ints w A x.slots ∧ Ints w B x.words
theorem NdV.below {w w' : World} {v : Value} {x : Nd} (h : NdV w v x) (hb : Below w.heap.size w w') : NdV w' v x := by
  obtain ⟨A, c, B, d, e, h1, h2⟩ := h
  exact ⟨A, c, B, d, e, h1.below hb, h2.below hb⟩

/-- All numbers name nodes, or none. -/
def named (l : List Int) (n : Int) : Bool := l.all fun a => decide (0 ≤ a) && decide (a ≤ n)
def wordsOk (l : List Int) : Bool := l.all fun v => decide (0 ≤ v) && decide (v < 4294967296)
def ndOk (x : Nd) (n : Int) : Bool := decide (x.slots.length ≤ 15) && decide (x.words.length ≤ 30) && wordsOk x.words && named x.slots n
def right (g : Gr) : Bool := decide (g.roots.length = 8) && decide (g.nodes.length ≤ 1000) && named g.roots g.nodes.length && g.nodes.all fun x => ndOk x g.nodes.length

theorem all_upto {α : Type} {p : α → Bool} {l : List α} (h : ∀ j, (hj : j < l.length) → p l[j] = true) : l.all p = true := by
  rw [List.all_eq_true]
  intro x hx
  obtain ⟨j, hj, rfl⟩ := List.getElem_of_mem hx
  exact h j hj
theorem all_bad {α : Type} {p : α → Bool} {l : List α} (j : Nat) (hj : j < l.length) (h : p l[j] = false) : l.all p = false := by
  rw [List.all_eq_false]
  exact ⟨l[j], List.getElem_mem hj, by rw [h]; simp⟩

end Go.Proofs.YteminkohgagedaaGreat.Gr
namespace Go.Proofs.YteminkohgagedaaGreat.Ver
open Go.RowKit Go.Proofs.YteminkohgagedaaGreat.Base
set_option linter.unusedVariables false

structure Ins where
  op : Int
  a : Int
  b : Int
  c : Int
  deriving DecidableEq

def Ins.cells (x : Ins) : List Value := [.int .i64 x.op, .int .i64 x.a, .int .i64 x.b, .int .i64 x.c]
theorem Ins.cells_len (x : Ins) : x.cells.length = 4 := rfl
theorem ins_oneCell (l : List Ins) : ∀ u ∈ enc Ins.cells l, u.oneCell' = true := by
  intro u hu
  simp only [enc, List.mem_flatMap] at hu
  obtain ⟨x, _, hx⟩ := hu
  simp only [Ins.cells, List.mem_cons, List.not_mem_nil, or_false] at hx
  rcases hx with rfl | rfl | rfl | rfl <;> rfl

/-- Its numbers are ints. -/
def Ins.fits (x : Ins) : Prop := (-9223372036854775808 ≤ x.a ∧ x.a ≤ 9223372036854775807) ∧ (-9223372036854775808 ≤ x.b ∧ x.b ≤ 9223372036854775807) ∧ (-9223372036854775808 ≤ x.c ∧ x.c ≤ 9223372036854775807)

/-- The four cells of the i-th instruction of a slice. -/
theorem codes_at {w : World} {A : Option Addr} {l : List Ins} (h : Arr w Ins.cells 4 A l) (i : Nat) (hi : i < l.length) :
    ∃ ad, A = some ad ∧ w.cell? (ad.add (i * 4)) = some (.int .i64 l[i].op) ∧ w.cell? ⟨(ad.add (i * 4)).block, (ad.add (i * 4)).off + 1, none⟩ = some (.int .i64 l[i].a) ∧
      w.cell? ⟨(ad.add (i * 4)).block, (ad.add (i * 4)).off + 2, none⟩ = some (.int .i64 l[i].b) ∧ w.cell? ⟨(ad.add (i * 4)).block, (ad.add (i * 4)).off + 3, none⟩ = some (.int .i64 l[i].c) := by
  obtain ⟨ad, e, hc⟩ := h.at_ Ins.cells_len i hi (by omega)
  have h1 := hc 1 _ rfl
  have h2 := hc 2 _ rfl
  have h3 := hc 3 _ rfl
  rw [← add_of_add] at h1 h2 h3
  exact ⟨ad, e, hc 0 _ rfl, h1, h2, h3⟩

/-- What the numbers of an operation are: 0 any byte, 1 zero, 2 a register, 3 a root. -/
def shp (op : Int) : Int × Int × Int :=
  if op = 0 ∨ op = 14 ∨ op = 15 then (1, 1, 1) else if op = 5 then (1, 0, 0) else if op = 1 ∨ op = 6 ∨ op = 7 then (2, 0, 0)
  else if op = 2 ∨ op = 3 ∨ op = 4 ∨ op = 18 then (2, 2, 2) else if op = 8 ∨ op = 9 ∨ op = 10 ∨ op = 11 then (2, 2, 0)
  else if op = 12 ∨ op = 13 then (2, 3, 1) else if op = 16 ∨ op = 19 then (2, 1, 1) else (2, 2, 1)

def num (v kind : Int) : Bool := if kind = 1 then decide (v = 0) else if kind = 2 then decide (0 ≤ v ∧ v < 4) else if kind = 3 then decide (0 ≤ v ∧ v < 8) else decide (0 ≤ v ∧ v ≤ 255)

def tgt (b c : Int) : Int := wrap64 (b + wrap64 (256 * c))

def one (op a b c n : Int) : Bool :=
  decide (0 ≤ op ∧ op < 23) && (num a (shp op).1 && (num b (shp op).2.1 && num c (shp op).2.2)) && decide (op = 7 → b ≤ 15 ∧ c ≤ 30) && decide (op = 5 ∨ op = 6 → tgt b c < n)

def byt (v : Int) : Bool := decide (0 ≤ v ∧ v ≤ 255)
def rg (v : Int) : Bool := decide (0 ≤ v ∧ v < 4)
theorem byt_iff {v : Int} (h : byt v = true) : 0 ≤ v ∧ v ≤ 255 := of_decide_eq_true h
theorem byt_no {v : Int} (h : byt v = false) : ¬ (0 ≤ v ∧ v ≤ 255) := of_decide_eq_false h
theorem tgt_of (b c : Int) (hb : byt b = true) (hc : byt c = true) : tgt b c = b + 256 * c := by
  have := byt_iff hb; have := byt_iff hc; unfold tgt wrap64; omega

theorem one_op {op a b c n : Int} (h : ¬ (0 ≤ op ∧ op < 23)) : one op a b c n = false := by
  simp only [one, decide_eq_false h, Bool.false_and]
theorem num_byt {v k : Int} (h : num v k = true) : byt v = true := by
  unfold num at h
  unfold byt
  repeat' split at h
  all_goals simp only [decide_eq_true_eq] at *
  all_goals omega
theorem one_byt {op a b c n : Int} (h : one op a b c n = true) : byt op = true ∧ byt a = true ∧ byt b = true ∧ byt c = true ∧ op < 23 := by
  simp only [one, Bool.and_eq_true, decide_eq_true_eq] at h
  obtain ⟨⟨⟨h0, h1, h2, h3⟩, _⟩, _⟩ := h
  exact ⟨decide_eq_true (by omega), num_byt h1, num_byt h2, num_byt h3, h0.2⟩
theorem one_a {op a b c n : Int} (h : byt a = false) : one op a b c n = false := by
  cases e : one op a b c n
  · rfl
  · rw [(one_byt e).2.1] at h; cases h
theorem one_b {op a b c n : Int} (h : byt b = false) : one op a b c n = false := by
  cases e : one op a b c n
  · rfl
  · rw [(one_byt e).2.2.1] at h; cases h
theorem one_c {op a b c n : Int} (h : byt c = false) : one op a b c n = false := by
  cases e : one op a b c n
  · rfl
  · rw [(one_byt e).2.2.2.1] at h; cases h

def Ins.ok (n : Int) (x : Ins) : Bool := one x.op x.a x.b x.c n

/-- Which instruction is the first that may not be; their number, if there is none. -/
def firstBad (n : Int) (l : List Ins) : Nat := l.findIdx (fun x => !x.ok n)
def chk (l : List Ins) : Int × Int :=
  if l.length = 0 ∨ 200 < l.length then (0, 10) else if firstBad l.length l < l.length then ((firstBad l.length l : Int), 10) else ((l.length : Int), 0)

theorem chk_far {l : List Ins} (h : l.length = 0 ∨ 200 < l.length) : chk l = (0, 10) := by rw [chk, if_pos h]
theorem chk_bad {l : List Ins} (h : ¬ (l.length = 0 ∨ 200 < l.length)) (i : Nat) (hi : i < l.length) (hb : l[i].ok l.length = false) (ha : ∀ j, (hj : j < i) → (l[j]'(by omega)).ok l.length = true) : chk l = ((i : Int), 10) := by
  have e : firstBad l.length l = i := by
    unfold firstBad
    rw [List.findIdx_eq hi]
    exact ⟨by simp [hb], fun j hj => by simp [ha j hj]⟩
  rw [chk, if_neg h, e, if_pos hi]
theorem chk_good {l : List Ins} (h : ¬ (l.length = 0 ∨ 200 < l.length)) (ha : ∀ j, (hj : j < l.length) → l[j].ok l.length = true) : chk l = ((l.length : Int), 0) := by
  have e : firstBad l.length l = l.length := by
    unfold firstBad
    rw [List.findIdx_eq_length]
    intro x hx
    obtain ⟨j, hj, rfl⟩ := List.getElem_of_mem hx
    simp [ha j hj]
  rw [chk, if_neg h, e, if_neg (by omega)]
theorem chk_ok {l : List Ins} (h : (chk l).2 = 0) : l.length ≠ 0 ∧ l.length ≤ 200 ∧ (∀ x ∈ l, x.ok l.length = true) ∧ chk l = ((l.length : Int), 0) := by
  by_cases h1 : l.length = 0 ∨ 200 < l.length
  · rw [chk_far h1] at h; cases h
  · by_cases h2 : firstBad l.length l < l.length
    · rw [chk, if_neg h1, if_pos h2] at h; cases h
    · have e : firstBad l.length l = l.length := by
        have : firstBad l.length l ≤ l.length := List.findIdx_le_length
        omega
      refine ⟨by omega, by omega, fun x hx => ?_, by rw [chk, if_neg h1, if_neg h2]⟩
      unfold firstBad at e
      rw [List.findIdx_eq_length] at e
      simpa using e x hx
theorem chk_range (l : List Ins) : 0 ≤ (chk l).1 ∧ (chk l).1 ≤ l.length := by
  unfold chk
  repeat' split
  all_goals simp only []
  all_goals omega
theorem ok_more {x : Ins} {n m : Int} (h : x.ok n = true) (hm : n ≤ m) : x.ok m = true := by
  simp only [Ins.ok, one, Bool.and_eq_true, decide_eq_true_eq] at *
  exact ⟨h.1, fun h5 => by have := h.2 h5; omega⟩

end Go.Proofs.YteminkohgagedaaGreat.Ver
