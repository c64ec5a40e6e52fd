/- A book that keeps lists of one kind alone (Codes), behind three words. Printed by gen_bkone.py. -/
import Derived.Test.YtdlapjfcmhkieaaDoorBkApCodes
namespace Go.Proofs.YtdlapjfcmhkieaaDoor.BkCodes
open Go.RowKit Go.Proofs.YtdlapjfcmhkieaaDoor.Base Go.Proofs.YtdlapjfcmhkieaaDoor.Bk
set_option linter.unusedVariables false
set_option linter.unusedSimpArgs false

def bookNil : Array Value := #[.slice none 0 0, .slice none 0 0, .slice none 0 0, .slice none 0 0, .slice none 0 0, .slice none 0 0, .slice none 0 0, .slice none 0 0, .slice none 0 0, .slice none 0 0, .slice none 0 0, .slice none 0 0]
/-- A book at X, laid since w0, that keeps the lists vs, which say what c says; all of it lies behind w0. -/
structure Bks (w0 w : World) (X : Nat) (cs : Array Value) (vs was : List Value) (c : Nat → List Ver.Ins) (AK AW : Option Addr) (cK cW : Nat) : Prop where
  blk : Blk w X 44 cs
  bk : BK w X cs vs was c AK AW cK cW
  z : Below w0.heap.size w0 w
  x : w0.heap.size ≤ X
  k : ∀ b, (Value.slice AK vs.length cK).ownBlock = some b → w0.heap.size ≤ b
  w : ∀ b, (Value.slice AW was.length cW).ownBlock = some b → w0.heap.size ≤ b
  v : ∀ b, InVs vs b → w0.heap.size ≤ b
  rest : ∀ i, i < 12 → i ≠ 8 → i ≠ 9 → cs[i]? = some (.slice none 0 0)
def Book1 (w0 w : World) (X : Nat) (vs : List Value) (c : Nat → List Ver.Ins) : Prop := ∃ cs was AK AW cK cW, Bks w0 w X cs vs was c AK AW cK cW
theorem bel_mod1 {S : Nat → Prop} {w0 w w' : World} (h : Below w0.heap.size w0 w) (m : Mod S w w') (hS : ∀ b, S b → w0.heap.size ≤ b) : Below w0.heap.size w0 w' :=
  ⟨m.os.trans h.os, m.tape.trans h.tape, m.output.trans h.output, Nat.le_trans h.size m.size, fun i hi => (m.block i (Nat.lt_of_lt_of_le hi h.size) (fun hs => by have := hS i hs; omega)).trans (h.block i hi)⟩
theorem Book1.start (w : World) : Book1 w (w.alloc (.cells bookNil 44)) w.heap.size [] (fun _ => []) :=
  ⟨bookNil, [], none, none, 0, 0, Blk.new w _ _, ⟨rfl, rfl, Kd.nil (by omega), Kd.nil (by omega), rfl, fun b hb => by simp [Value.ownBlock] at hb⟩, (Below.refl _ _).alloc (Nat.le_refl _) _, Nat.le_refl _,
    fun b hb => by simp [Value.ownBlock] at hb, fun b hb => by simp [Value.ownBlock] at hb, fun b ⟨v, hv, _⟩ => by simp at hv, fun i hi h1 h2 => by
      rcases (by omega : i = 0 ∨ i = 1 ∨ i = 2 ∨ i = 3 ∨ i = 4 ∨ i = 5 ∨ i = 6 ∨ i = 7 ∨ i = 8 ∨ i = 9 ∨ i = 10 ∨ i = 11) with rfl | rfl | rfl | rfl | rfl | rfl | rfl | rfl | rfl | rfl | rfl | rfl <;> rfl⟩
theorem Book1.below {w0 w w' : World} {X : Nat} {vs : List Value} {c : Nat → List Ver.Ins} (h : Book1 w0 w X vs c) (hb : Below w.heap.size w w') : Book1 w0 w' X vs c := by
  obtain ⟨cs, was, AK, AW, cK, cW, h⟩ := h
  exact ⟨cs, was, AK, AW, cK, cW, h.blk.below hb h.blk.lt, h.bk.below hb, h.z.trans (hb.mono h.z.size), h.x, h.k, h.w, h.v, h.rest⟩
theorem Book1.behind {w0 w : World} {X : Nat} {vs : List Value} {c : Nat → List Ver.Ins} (h : Book1 w0 w X vs c) : Below w0.heap.size w0 w := by
  obtain ⟨cs, was, AK, AW, cK, cW, h⟩ := h
  exact h.z
theorem Book1.lists {w0 w : World} {X : Nat} {vs : List Value} {c : Nat → List Ver.Ins} (h : Book1 w0 w X vs c) (i : Nat) (v : Value) (hv : vs[i]? = some v) : w.ownsRow 0 28 4 v (c i).length (enc Ver.Ins.cells (c i)) := by
  obtain ⟨cs, was, AK, AW, cK, cW, h⟩ := h
  exact h.bk.kept.own i v hv
theorem Book1.lt {w0 w : World} {X : Nat} {vs : List Value} {c : Nat → List Ver.Ins} (h : Book1 w0 w X vs c) : ∀ b, InVs vs b → b < w.heap.size := by
  obtain ⟨cs, was, AK, AW, cK, cW, h⟩ := h
  exact h.bk.kept.block
theorem book_add {w0 w : World} {X : Nat} {vs : List Value} {c : Nat → List Ver.Ins} (h : Book1 w0 w X vs c) (A : Option Addr) (q : Nat) (l : List Ver.Ins) (hv : w.ownsRow 0 28 4 (.slice A l.length q) l.length (enc Ver.Ins.cells l))
    (hn : ∀ b, (Value.slice A l.length q).ownBlock = some b → ¬ InVs vs b) (hA : ∀ b, (Value.slice A l.length q).ownBlock = some b → w0.heap.size ≤ b) (hl : l.length ≤ 100000) (hm : vs.length < 250) :
    Calls Tryd.prog 17 #[.pointer (some ⟨X, 0, none⟩), .slice A l.length q] w fun e w' => e = .returned (.tuple #[]) ∧ Book1 w0 w' X (vs ++ [.slice A l.length q]) (more c vs.length l) := by
  obtain ⟨cs, was, AK, AW, cK, cW, h⟩ := h
  refine (add_any X cs vs was c AK AW cK cW A q l w h.blk h.bk hv hn hl hm).mono ?_
  rintro e w' ⟨rfl, AK', AW', cK', cW', v2, b1, b2, b3, b4, b5⟩
  refine ⟨rfl, _, _, AK', AW', cK', cW', b1, b2, bel_mod1 h.z b3 (fun b hb => ?_), h.x, fun b hb => ?_, fun b hb => ?_, fun b hb => ?_, fun i hi h1 h2 => ?_⟩
  · rcases hb with rfl | hb | hb
    · exact h.x
    · exact h.k b hb
    · exact h.w b hb
  · rw [List.length_append] at hb
    rcases b4 b hb with h' | h'
    · exact h.k b h'
    · exact Nat.le_trans h.z.size h'
  · rw [List.length_append] at hb
    rcases b5 b hb with h' | h'
    · exact h.w b h'
    · exact Nat.le_trans h.z.size h'
  · obtain ⟨v, hv, hb⟩ := hb
    rcases List.mem_append.1 hv with hv | hv
    · exact h.v b ⟨v, hv, hb⟩
    · rw [List.mem_singleton.1 hv] at hb
      exact hA b hb
  · rw [Array.getElem?_setIfInBounds_ne (by omega), Array.getElem?_setIfInBounds_ne (by omega)]
    exact h.rest i hi h1 h2
theorem book_apart {w0 w : World} {X : Nat} {vs : List Value} {c : Nat → List Ver.Ins} (h : Book1 w0 w X vs c) (hv : vs.length ≤ 250) (hl : ∀ i, (c i).length ≤ 90000) :
    Calls Tryd.prog 19 #[.pointer (some ⟨X, 0, none⟩)] w fun e w' => e = .returned (.bool true) ∧ Below w0.heap.size w0 w' := by
  obtain ⟨cs, was, AK, AW, cK, cW, h⟩ := h
  refine (apart_any X cs vs was c AK AW cK cW w h.blk h.bk (h.rest 0 (by decide) (by decide) (by decide)) (h.rest 2 (by decide) (by decide) (by decide)) (h.rest 4 (by decide) (by decide) (by decide)) (h.rest 6 (by decide) (by decide) (by decide)) (h.rest 10 (by decide) (by decide) (by decide)) hv hl).mono ?_
  rintro e w' ⟨rfl, hm⟩
  exact ⟨rfl, bel_mod1 h.z hm h.v⟩
theorem more_len {c : Nat → List Ver.Ins} {m N : Nat} {l : List Ver.Ins} (h : ∀ i, (c i).length ≤ N) (hl : l.length ≤ N) : ∀ i, (more c m l i).length ≤ N := fun i => by
  unfold more
  split
  · exact hl
  · exact h i
end Go.Proofs.YtdlapjfcmhkieaaDoor.BkCodes
