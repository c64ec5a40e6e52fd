/- Plain words for programs as bytes, names and texts of instructions. Printed in part by gen_codeplain.py, a program of this session. -/
import Derived.Test.YtdlapjfcmhkieaaDoorVerPlain
import Derived.Lib.ItoaLen
import Derived.Lib.Join
import Derived.Lib.UnsafeStr
namespace Go.Proofs.YtdlapjfcmhkieaaDoor.Ver
open Go.RowKit Go.Proofs.YtdlapjfcmhkieaaDoor.Base
set_option linter.unusedVariables false
set_option linter.unusedSimpArgs false

/-- The names of the operations, as bytes. -/
def opNames : List (List UInt8) := [[104, 97, 108, 116], [99, 111, 110, 115, 116], [97, 100, 100], [115, 117, 98], [109, 117, 108], [106, 117, 109, 112], [122, 101, 114, 111], [97, 108, 108, 111, 99], [108, 111, 97, 100], [112, 117, 116], [119, 111, 114, 100], [115, 101, 116, 119, 111, 114, 100], [114, 111, 111, 116], [115, 101, 116, 114, 111, 111, 116], [99, 111, 109, 109, 105, 116], [97, 98, 111, 114, 116], [111, 117, 116], [105, 115, 110, 105, 108], [115, 97, 109, 101], [110, 105, 108], [109, 111, 118, 101], [115, 108, 111, 116, 115], [119, 111, 114, 100, 115]]
def opName (op : Int) : List UInt8 := if 0 ≤ op then opNames.getD op.toNat [] else []
theorem opNames_len : opNames.length = 23 := by rfl
theorem opName_out {op : Int} (h : op < 0 ∨ 23 ≤ op) : opName op = [] := by
  unfold opName
  by_cases h0 : 0 ≤ op
  · rw [if_pos h0, List.getD_eq_getElem?_getD, List.getElem?_eq_none (by rw [opNames_len]; omega)]; rfl
  · rw [if_neg h0]
theorem opName_len (op : Int) : (opName op).length ≤ 10 := by
  by_cases h : op < 0 ∨ 23 ≤ op
  · rw [opName_out h]; simp
  · obtain ⟨n, rfl⟩ : ∃ n : Nat, op = n := ⟨op.toNat, by omega⟩
    have hn : n < 23 := by omega
    clear h
    revert n
    decide +kernel

/-- A number as a byte. -/
def byteOf (v : Int) : UInt8 := UInt8.ofNat v.toNat
theorem byteOf_val {v : Int} (h : byt v = true) : ((byteOf v).toNat : Int) = v := by
  have := byt_iff h
  unfold byteOf
  rw [UInt8.toNat_ofNat']
  omega
def Ins.nth (x : Ins) : Nat → Int
  | 0 => x.op
  | 1 => x.a
  | 2 => x.b
  | _ => x.c
def Ins.bytes (x : Ins) : List UInt8 := [byteOf x.op, byteOf x.a, byteOf x.b, byteOf x.c]
def bytesOf (l : List Ins) : List UInt8 := l.flatMap Ins.bytes
theorem bytesOf_len (l : List Ins) : (bytesOf l).length = 4 * l.length := by
  induction l with
  | nil => rfl
  | cons x l ih => simp only [bytesOf, List.flatMap_cons, List.length_append, List.length_cons] at *; rw [ih]; simp [Ins.bytes]; omega
def Ins.byteful (x : Ins) : Bool := byt x.op && byt x.a && byt x.b && byt x.c
def progOk (l : List Ins) : Bool := decide (l.length ≤ 200) && l.all Ins.byteful
theorem byteful_nth {x : Ins} (h : x.byteful = true) (j : Nat) : byt (x.nth j) = true := by
  simp only [Ins.byteful, Bool.and_eq_true] at h
  match j with
  | 0 => exact h.1.1.1
  | 1 => exact h.1.1.2
  | 2 => exact h.1.2
  | j + 3 => exact h.2
theorem not_byteful {x : Ins} {j : Nat} (h : byt (x.nth j) = false) : x.byteful = false := by
  cases e : x.byteful
  · rfl
  · rw [byteful_nth e j] at h; cases h
theorem progOk_no {l : List Ins} (k : Nat) (hk : k < l.length) (h : l[k].byteful = false) : progOk l = false := by
  simp only [progOk, Bool.and_eq_false_iff, List.all_eq_false]
  exact .inr ⟨l[k], List.getElem_mem hk, by simp [h]⟩
theorem progOk_yes {l : List Ins} (h : l.length ≤ 200) (ha : ∀ j, (hj : j < l.length) → l[j].byteful = true) : progOk l = true := by
  simp only [progOk, Bool.and_eq_true, decide_eq_true_eq, List.all_eq_true]
  refine ⟨h, fun x hx => ?_⟩
  obtain ⟨j, hj, rfl⟩ := List.getElem_of_mem hx
  exact ha j hj
theorem progOk_of {l : List Ins} (h : progOk l = true) : l.length ≤ 200 ∧ ∀ x ∈ l, x.byteful = true := by
  simpa only [progOk, Bool.and_eq_true, decide_eq_true_eq, List.all_eq_true] using h

/-- The program of bytes: four by four. -/
def insOf (b : List UInt8) (i : Nat) : Ins := ⟨((b.getD (4 * i) 0).toNat : Int), ((b.getD (4 * i + 1) 0).toNat : Int), ((b.getD (4 * i + 2) 0).toNat : Int), ((b.getD (4 * i + 3) 0).toNat : Int)⟩
def progOf (b : List UInt8) : List Ins := (List.range (b.length / 4)).map (insOf b)
def bytesOk (n : Nat) : Bool := decide (n % 4 = 0 ∧ n ≤ 800)

/-- An instruction as a text. -/
def insText (x : Ins) : List UInt8 := Lib.join [opName x.op, Lib.itoa x.a, Lib.itoa x.b, Lib.itoa x.c] [32]

end Go.Proofs.YtdlapjfcmhkieaaDoor.Ver
