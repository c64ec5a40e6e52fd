/- Plain words for the model: a machine over two graphs, what an instruction does to it, what a program comes to. No program and no memory in it. -/
import Derived.Test.YteminkohgagedaaGrNum
import Derived.Test.YteminkohgagedaaVerPlain
namespace Go.Proofs.Yteminkohgagedaa.Mo
open Go.RowKit Go.Proofs.Yteminkohgagedaa.Base Go.Proofs.Yteminkohgagedaa.Gr Go.Proofs.Yteminkohgagedaa.Ver
set_option linter.unusedVariables false
set_option linter.unusedSimpArgs false

/-- The graph that is worked on, the one that counts, registers, the next instruction, what was told. -/
structure St where
  now : Gr
  last : Gr
  refs : List Int
  nums : List Int
  pc : Nat
  outs : List Int

def gt (l : List Int) (i : Int) : Int := l.getD i.toNat 0
def pu (l : List Int) (i v : Int) : List Int := l.set i.toNat v
def rnd (v : Int) : Int := v % 4294967296
theorem bits_rnd (v : Int) : bits .and .i64 v 4294967295 = rnd v := by
  unfold bits rnd
  have h1 : ((BitVec.ofInt IntKind.i64.bits v &&& BitVec.ofInt IntKind.i64.bits 4294967295).toNat : Int) = v % 4294967296 := by
    have h64 : IntKind.i64.bits = 64 := rfl
    rw [h64, BitVec.toNat_and]
    have e : (BitVec.ofInt 64 4294967295).toNat = 2 ^ 32 - 1 := by decide
    rw [e, Nat.and_two_pow_sub_one_eq_mod, BitVec.toNat_ofInt]
    omega
  simp only [h1]
  exact IntWalk.i64_in _ (by omega)
theorem rnd_wrap (v : Int) : rnd (wrap64 v) = rnd v := by unfold rnd wrap64; omega
theorem rnd_range (v : Int) : 0 ≤ rnd v ∧ rnd v < 4294967296 := by unfold rnd; omega
def flag (b : Bool) : Int := if b then 1 else 0

/-- An object. -/
def nd (g : Gr) (a : Int) : Nd := g.nodes.getD (a - 1).toNat ⟨[], []⟩
/-- Why there is no such place: 7 no object, 8 no place. -/
def atE (a i : Int) (l : List Int) : Int := if a = 0 then 7 else if (l.length : Int) ≤ i then 8 else 0
def setSlot (g : Gr) (a i v : Int) : Gr := ⟨g.roots, g.nodes.set (a - 1).toNat ⟨pu (nd g a).slots i v, (nd g a).words⟩⟩
def setWord (g : Gr) (a i v : Int) : Gr := ⟨g.roots, g.nodes.set (a - 1).toNat ⟨(nd g a).slots, pu (nd g a).words i v⟩⟩
def mkN (g : Gr) (s w : Int) : Gr := ⟨g.roots, g.nodes ++ [⟨List.replicate s.toNat 0, List.replicate w.toNat 0⟩]⟩

/-- What an instruction does (Halt is not done). -/
def step (x : Ins) (σ : St) : Int × St :=
  if x.op = 1 then (0, { σ with nums := pu σ.nums x.a (rnd (x.b + 256 * x.c)) })
  else if x.op = 2 then (0, { σ with nums := pu σ.nums x.a (rnd (gt σ.nums x.b + gt σ.nums x.c)) })
  else if x.op = 3 then (0, { σ with nums := pu σ.nums x.a (rnd (gt σ.nums x.b - gt σ.nums x.c)) })
  else if x.op = 4 then (0, { σ with nums := pu σ.nums x.a (rnd (gt σ.nums x.b * gt σ.nums x.c)) })
  else if x.op = 5 then (0, { σ with pc := (x.b + 256 * x.c).toNat })
  else if x.op = 6 then (0, if gt σ.nums x.a = 0 then { σ with pc := (x.b + 256 * x.c).toNat } else σ)
  else if x.op = 7 then (0, { σ with now := mkN σ.now x.b x.c, refs := pu σ.refs x.a (σ.now.nodes.length + 1) })
  else if x.op = 8 then
    if atE (gt σ.refs x.b) x.c (nd σ.now (gt σ.refs x.b)).slots = 0 then (0, { σ with refs := pu σ.refs x.a (gt (nd σ.now (gt σ.refs x.b)).slots x.c) })
    else (atE (gt σ.refs x.b) x.c (nd σ.now (gt σ.refs x.b)).slots, σ)
  else if x.op = 9 then
    if atE (gt σ.refs x.a) x.c (nd σ.now (gt σ.refs x.a)).slots = 0 then (0, { σ with now := setSlot σ.now (gt σ.refs x.a) x.c (gt σ.refs x.b) })
    else (atE (gt σ.refs x.a) x.c (nd σ.now (gt σ.refs x.a)).slots, σ)
  else if x.op = 10 then
    if atE (gt σ.refs x.b) x.c (nd σ.now (gt σ.refs x.b)).words = 0 then (0, { σ with nums := pu σ.nums x.a (gt (nd σ.now (gt σ.refs x.b)).words x.c) })
    else (atE (gt σ.refs x.b) x.c (nd σ.now (gt σ.refs x.b)).words, σ)
  else if x.op = 11 then
    if atE (gt σ.refs x.a) x.c (nd σ.now (gt σ.refs x.a)).words = 0 then (0, { σ with now := setWord σ.now (gt σ.refs x.a) x.c (gt σ.nums x.b) })
    else (atE (gt σ.refs x.a) x.c (nd σ.now (gt σ.refs x.a)).words, σ)
  else if x.op = 12 then (0, { σ with refs := pu σ.refs x.a (gt σ.now.roots x.b) })
  else if x.op = 13 then (0, { σ with now := ⟨pu σ.now.roots x.b (gt σ.refs x.a), σ.now.nodes⟩ })
  else if x.op = 14 then (0, { σ with last := σ.now })
  else if x.op = 15 then (0, { σ with now := σ.last, refs := [0, 0, 0, 0] })
  else if x.op = 16 then (0, if σ.outs.length < 1000 then { σ with outs := σ.outs ++ [gt σ.nums x.a] } else σ)
  else if x.op = 17 then (0, { σ with nums := pu σ.nums x.a (flag (decide (gt σ.refs x.b = 0))) })
  else if x.op = 18 then (0, { σ with nums := pu σ.nums x.a (flag (decide (gt σ.refs x.b = gt σ.refs x.c))) })
  else if x.op = 19 then (0, { σ with refs := pu σ.refs x.a 0 })
  else if x.op = 20 then (0, { σ with refs := pu σ.refs x.a (gt σ.refs x.b) })
  else if x.op = 21 then if gt σ.refs x.b = 0 then (7, σ) else (0, { σ with nums := pu σ.nums x.a ((nd σ.now (gt σ.refs x.b)).slots.length) })
  else if gt σ.refs x.b = 0 then (7, σ) else (0, { σ with nums := pu σ.nums x.a ((nd σ.now (gt σ.refs x.b)).words.length) })

theorem step_1 {x : Ins} (σ : St) (h : x.op = 1) : step x σ = ((0, { σ with nums := pu σ.nums x.a (rnd (x.b + 256 * x.c)) })) := by
  unfold step
  simp only [h, Int.reduceEq, if_true, if_false, reduceIte]
theorem step_2 {x : Ins} (σ : St) (h : x.op = 2) : step x σ = ((0, { σ with nums := pu σ.nums x.a (rnd (gt σ.nums x.b + gt σ.nums x.c)) })) := by
  unfold step
  simp only [h, Int.reduceEq, if_true, if_false, reduceIte]
theorem step_3 {x : Ins} (σ : St) (h : x.op = 3) : step x σ = ((0, { σ with nums := pu σ.nums x.a (rnd (gt σ.nums x.b - gt σ.nums x.c)) })) := by
  unfold step
  simp only [h, Int.reduceEq, if_true, if_false, reduceIte]
theorem step_4 {x : Ins} (σ : St) (h : x.op = 4) : step x σ = ((0, { σ with nums := pu σ.nums x.a (rnd (gt σ.nums x.b * gt σ.nums x.c)) })) := by
  unfold step
  simp only [h, Int.reduceEq, if_true, if_false, reduceIte]
theorem step_5 {x : Ins} (σ : St) (h : x.op = 5) : step x σ = ((0, { σ with pc := (x.b + 256 * x.c).toNat })) := by
  unfold step
  simp only [h, Int.reduceEq, if_true, if_false, reduceIte]
theorem step_6 {x : Ins} (σ : St) (h : x.op = 6) : step x σ = ((0, if gt σ.nums x.a = 0 then { σ with pc := (x.b + 256 * x.c).toNat } else σ)) := by
  unfold step
  simp only [h, Int.reduceEq, if_true, if_false, reduceIte]
theorem step_7 {x : Ins} (σ : St) (h : x.op = 7) : step x σ = ((0, { σ with now := mkN σ.now x.b x.c, refs := pu σ.refs x.a (σ.now.nodes.length + 1) })) := by
  unfold step
  simp only [h, Int.reduceEq, if_true, if_false, reduceIte]
theorem step_8 {x : Ins} (σ : St) (h : x.op = 8) : step x σ = (if atE (gt σ.refs x.b) x.c (nd σ.now (gt σ.refs x.b)).slots = 0 then (0, { σ with refs := pu σ.refs x.a (gt (nd σ.now (gt σ.refs x.b)).slots x.c) })
    else (atE (gt σ.refs x.b) x.c (nd σ.now (gt σ.refs x.b)).slots, σ)) := by
  unfold step
  simp only [h, Int.reduceEq, if_true, if_false, reduceIte]
theorem step_9 {x : Ins} (σ : St) (h : x.op = 9) : step x σ = (if atE (gt σ.refs x.a) x.c (nd σ.now (gt σ.refs x.a)).slots = 0 then (0, { σ with now := setSlot σ.now (gt σ.refs x.a) x.c (gt σ.refs x.b) })
    else (atE (gt σ.refs x.a) x.c (nd σ.now (gt σ.refs x.a)).slots, σ)) := by
  unfold step
  simp only [h, Int.reduceEq, if_true, if_false, reduceIte]
theorem step_10 {x : Ins} (σ : St) (h : x.op = 10) : step x σ = (if atE (gt σ.refs x.b) x.c (nd σ.now (gt σ.refs x.b)).words = 0 then (0, { σ with nums := pu σ.nums x.a (gt (nd σ.now (gt σ.refs x.b)).words x.c) })
    else (atE (gt σ.refs x.b) x.c (nd σ.now (gt σ.refs x.b)).words, σ)) := by
  unfold step
  simp only [h, Int.reduceEq, if_true, if_false, reduceIte]
theorem step_11 {x : Ins} (σ : St) (h : x.op = 11) : step x σ = (if atE (gt σ.refs x.a) x.c (nd σ.now (gt σ.refs x.a)).words = 0 then (0, { σ with now := setWord σ.now (gt σ.refs x.a) x.c (gt σ.nums x.b) })
    else (atE (gt σ.refs x.a) x.c (nd σ.now (gt σ.refs x.a)).words, σ)) := by
  unfold step
  simp only [h, Int.reduceEq, if_true, if_false, reduceIte]
theorem step_12 {x : Ins} (σ : St) (h : x.op = 12) : step x σ = ((0, { σ with refs := pu σ.refs x.a (gt σ.now.roots x.b) })) := by
  unfold step
  simp only [h, Int.reduceEq, if_true, if_false, reduceIte]
theorem step_13 {x : Ins} (σ : St) (h : x.op = 13) : step x σ = ((0, { σ with now := ⟨pu σ.now.roots x.b (gt σ.refs x.a), σ.now.nodes⟩ })) := by
  unfold step
  simp only [h, Int.reduceEq, if_true, if_false, reduceIte]
theorem step_14 {x : Ins} (σ : St) (h : x.op = 14) : step x σ = ((0, { σ with last := σ.now })) := by
  unfold step
  simp only [h, Int.reduceEq, if_true, if_false, reduceIte]
theorem step_15 {x : Ins} (σ : St) (h : x.op = 15) : step x σ = ((0, { σ with now := σ.last, refs := [0, 0, 0, 0] })) := by
  unfold step
  simp only [h, Int.reduceEq, if_true, if_false, reduceIte]
theorem step_16 {x : Ins} (σ : St) (h : x.op = 16) : step x σ = ((0, if σ.outs.length < 1000 then { σ with outs := σ.outs ++ [gt σ.nums x.a] } else σ)) := by
  unfold step
  simp only [h, Int.reduceEq, if_true, if_false, reduceIte]
theorem step_17 {x : Ins} (σ : St) (h : x.op = 17) : step x σ = ((0, { σ with nums := pu σ.nums x.a (flag (decide (gt σ.refs x.b = 0))) })) := by
  unfold step
  simp only [h, Int.reduceEq, if_true, if_false, reduceIte]
theorem step_18 {x : Ins} (σ : St) (h : x.op = 18) : step x σ = ((0, { σ with nums := pu σ.nums x.a (flag (decide (gt σ.refs x.b = gt σ.refs x.c))) })) := by
  unfold step
  simp only [h, Int.reduceEq, if_true, if_false, reduceIte]
theorem step_19 {x : Ins} (σ : St) (h : x.op = 19) : step x σ = ((0, { σ with refs := pu σ.refs x.a 0 })) := by
  unfold step
  simp only [h, Int.reduceEq, if_true, if_false, reduceIte]
theorem step_20 {x : Ins} (σ : St) (h : x.op = 20) : step x σ = ((0, { σ with refs := pu σ.refs x.a (gt σ.refs x.b) })) := by
  unfold step
  simp only [h, Int.reduceEq, if_true, if_false, reduceIte]
theorem step_21 {x : Ins} (σ : St) (h : x.op = 21) : step x σ = (if gt σ.refs x.b = 0 then (7, σ) else (0, { σ with nums := pu σ.nums x.a ((nd σ.now (gt σ.refs x.b)).slots.length) })) := by
  unfold step
  simp only [h, Int.reduceEq, if_true, if_false, reduceIte]
theorem step_22 {x : Ins} (σ : St) (h : x.op = 22) : step x σ = (if gt σ.refs x.b = 0 then (7, σ) else (0, { σ with nums := pu σ.nums x.a ((nd σ.now (gt σ.refs x.b)).words.length) })) := by
  unfold step
  simp only [h, Int.reduceEq, if_true, if_false, reduceIte]
/-- What a program comes to: error, where, fuel left, the machine. -/
structure Res where
  e : Int
  at_ : Nat
  left : Nat
  σ : St

def insAt (l : List Ins) (k : Nat) : Ins := l.getD k ⟨0, 0, 0, 0⟩
def exec (l : List Ins) : Nat → St → Res
  | 0, σ => if σ.pc < l.length then ⟨11, σ.pc, 0, σ⟩ else ⟨0, l.length, 0, σ⟩
  | n + 1, σ =>
    if σ.pc < l.length then
      if (insAt l σ.pc).op = 0 then ⟨0, σ.pc, n, { σ with pc := σ.pc + 1 }⟩
      else if (step (insAt l σ.pc) { σ with pc := σ.pc + 1 }).1 = 0 then exec l n (step (insAt l σ.pc) { σ with pc := σ.pc + 1 }).2
      else ⟨(step (insAt l σ.pc) { σ with pc := σ.pc + 1 }).1, σ.pc, n, (step (insAt l σ.pc) { σ with pc := σ.pc + 1 }).2⟩
    else ⟨0, l.length, n + 1, σ⟩
/-- A machine at its beginning. -/
def begin_ (g : Gr) : St := ⟨g, g, [0, 0, 0, 0], [0, 0, 0, 0], 0, []⟩

/-! ### what stays -/
/-- A graph that may be, of at most n nodes. -/
structure Sound (N : Nat) (g : Gr) : Prop where
  roots : g.roots.length = 8
  size : g.nodes.length ≤ N
  named : named g.roots g.nodes.length = true
  nodes : ∀ x ∈ g.nodes, ndOk x g.nodes.length = true
theorem sound_right {g : Gr} (h : right g = true) : Sound 1000 g := by
  obtain ⟨a, b, c, d⟩ := right_parts h
  exact ⟨a, b, c, d⟩
theorem Sound.more {N M : Nat} {g : Gr} (h : Sound N g) (hm : N ≤ M) : Sound M g := ⟨h.roots, Nat.le_trans h.size hm, h.named, h.nodes⟩
theorem named_iff {l : List Int} {n : Int} : named l n = true ↔ ∀ a ∈ l, 0 ≤ a ∧ a ≤ n := by
  simp [named, List.all_eq_true]
theorem wordsOk_iff {l : List Int} : wordsOk l = true ↔ ∀ a ∈ l, 0 ≤ a ∧ a < 4294967296 := by
  simp [wordsOk, List.all_eq_true]
theorem ndOk_iff {x : Nd} {n : Int} : ndOk x n = true ↔ x.slots.length ≤ 15 ∧ x.words.length ≤ 30 ∧ wordsOk x.words = true ∧ named x.slots n = true := by
  simp only [ndOk, Bool.and_eq_true, decide_eq_true_eq]
  constructor
  · rintro ⟨⟨⟨a, b⟩, c⟩, d⟩; exact ⟨a, b, c, d⟩
  · rintro ⟨a, b, c, d⟩; exact ⟨⟨⟨a, b⟩, c⟩, d⟩
/-- What always is so of a machine. -/
structure Well (N : Nat) (σ : St) : Prop where
  now : Sound N σ.now
  last : Sound N σ.last
  refs : σ.refs.length = 4
  refsN : named σ.refs σ.now.nodes.length = true
  nums : σ.nums.length = 4
  numsN : wordsOk σ.nums = true
  outs : σ.outs.length ≤ 1000
  outsN : wordsOk σ.outs = true

theorem pu_len (l : List Int) (i v : Int) : (pu l i v).length = l.length := by unfold pu; exact List.length_set
theorem mem_pu {l : List Int} {i v a : Int} (h : a ∈ pu l i v) : a ∈ l ∨ a = v := by
  unfold pu at h
  exact List.mem_or_eq_of_mem_set h
theorem gt_mem {l : List Int} {i : Int} (h0 : 0 ≤ i) (h : i < l.length) : gt l i ∈ l := by
  unfold gt
  rw [List.getD_eq_getElem?_getD, List.getElem?_eq_getElem (by omega)]
  exact List.getElem_mem _
theorem gt_or (l : List Int) (i : Int) : gt l i ∈ l ∨ gt l i = 0 := by
  unfold gt
  rw [List.getD_eq_getElem?_getD]
  cases h : l[i.toNat]? with
  | none => right; rfl
  | some v => left; exact List.mem_of_getElem? h
theorem named_pu {l : List Int} {n i v : Int} (h : named l n = true) (h0 : 0 ≤ v) (h1 : v ≤ n) : named (pu l i v) n = true := by
  rw [named_iff] at *
  intro a ha
  rcases mem_pu ha with h2 | rfl
  · exact h a h2
  · exact ⟨h0, h1⟩
theorem words_pu {l : List Int} {i v : Int} (h : wordsOk l = true) (h0 : 0 ≤ v) (h1 : v < 4294967296) : wordsOk (pu l i v) = true := by
  rw [wordsOk_iff] at *
  intro a ha
  rcases mem_pu ha with h2 | rfl
  · exact h a h2
  · exact ⟨h0, h1⟩
theorem named_gt {l : List Int} {n : Int} (i : Int) (h : named l n = true) (hn : 0 ≤ n) : 0 ≤ gt l i ∧ gt l i ≤ n := by
  rw [named_iff] at h
  rcases gt_or l i with h1 | h1
  · exact h _ h1
  · omega
theorem words_gt {l : List Int} (i : Int) (h : wordsOk l = true) : 0 ≤ gt l i ∧ gt l i < 4294967296 := by
  rw [wordsOk_iff] at h
  rcases gt_or l i with h1 | h1
  · exact h _ h1
  · omega
theorem named_more {l : List Int} {n m : Int} (h : named l n = true) (hm : n ≤ m) : named l m = true := by
  rw [named_iff] at *
  intro a ha
  have := h a ha
  omega
theorem ndOk_more {x : Nd} {n m : Int} (h : ndOk x n = true) (hm : n ≤ m) : ndOk x m = true := by
  rw [ndOk_iff] at *
  exact ⟨h.1, h.2.1, h.2.2.1, named_more h.2.2.2 hm⟩
theorem nd_ok {N : Nat} {g : Gr} (h : Sound N g) (a : Int) : ndOk (nd g a) g.nodes.length = true := by
  unfold nd
  rw [List.getD_eq_getElem?_getD]
  cases e : g.nodes[(a - 1).toNat]? with
  | none => rw [ndOk_iff]; simp [named, wordsOk]
  | some x => exact h.nodes x (List.mem_of_getElem? e)
theorem nd_at {g : Gr} {a : Int} (h : 1 ≤ a) (h1 : a ≤ g.nodes.length) : nd g a = g.nodes[(a - 1).toNat]'(by omega) := by
  unfold nd
  rw [List.getD_eq_getElem?_getD, List.getElem?_eq_getElem (by omega)]
  rfl
theorem nd_nat {g : Gr} {j : Nat} (h : j < g.nodes.length) : nd g ((j : Int) + 1) = g.nodes[j] := by
  rw [nd_at (by omega) (by omega)]
  congr 1
  omega
theorem gt_nat {l : List Int} {j : Nat} (h : j < l.length) : gt l (j : Int) = l[j] := by
  unfold gt
  rw [List.getD_eq_getElem?_getD, Int.toNat_natCast, List.getElem?_eq_getElem h]
  rfl
theorem Sound.set {N : Nat} {g : Gr} (h : Sound N g) (k : Nat) (x : Nd) (hx : ndOk x g.nodes.length = true) : Sound N ⟨g.roots, g.nodes.set k x⟩ := by
  refine ⟨h.roots, by simpa using h.size, by simpa using h.named, fun y hy => ?_⟩
  simp only [List.length_set]
  rcases List.mem_or_eq_of_mem_set hy with h1 | rfl
  · exact h.nodes y h1
  · exact hx
theorem Sound.setSlot {N : Nat} {g : Gr} (h : Sound N g) (a i v : Int) (h0 : 0 ≤ v) (h1 : v ≤ g.nodes.length) : Sound N (setSlot g a i v) := by
  refine h.set _ _ ?_
  have := ndOk_iff.1 (nd_ok h a)
  exact ndOk_iff.2 ⟨by rw [pu_len]; exact this.1, this.2.1, this.2.2.1, named_pu this.2.2.2 h0 h1⟩
theorem Sound.setWord {N : Nat} {g : Gr} (h : Sound N g) (a i v : Int) (h0 : 0 ≤ v) (h1 : v < 4294967296) : Sound N (setWord g a i v) := by
  refine h.set _ _ ?_
  have := ndOk_iff.1 (nd_ok h a)
  exact ndOk_iff.2 ⟨this.1, by rw [pu_len]; exact this.2.1, words_pu this.2.2.1 h0 h1, this.2.2.2⟩
theorem Sound.made {N : Nat} {g : Gr} (h : Sound N g) (s w : Int) (hs : s ≤ 15) (hw : w ≤ 30) : Sound (N + 1) (mkN g s w) := by
  have hl : (mkN g s w).nodes.length = g.nodes.length + 1 := by simp [mkN]
  have hsz := h.size
  refine ⟨h.roots, by rw [hl]; omega, ?_, fun x hx => ?_⟩
  · rw [hl]
    exact named_more h.named (by omega)
  · rw [hl]
    simp only [mkN, List.mem_append, List.mem_singleton] at hx
    rcases hx with h1 | rfl
    · exact ndOk_more (h.nodes x h1) (by omega)
    · rw [ndOk_iff, named_iff, wordsOk_iff]
      refine ⟨by simp; omega, by simp; omega, fun a ha => ?_, fun a ha => ?_⟩
      · have := List.eq_of_mem_replicate ha; omega
      · have := List.eq_of_mem_replicate ha; omega
theorem Sound.root {N : Nat} {g : Gr} (h : Sound N g) (i v : Int) (h0 : 0 ≤ v) (h1 : v ≤ g.nodes.length) : Sound N ⟨pu g.roots i v, g.nodes⟩ :=
  ⟨by rw [← h.roots]; exact pu_len _ _ _, h.size, named_pu h.named h0 h1, h.nodes⟩
theorem Well.more {N M : Nat} {σ : St} (h : Well N σ) (hm : N ≤ M) : Well M σ := ⟨h.now.more hm, h.last.more hm, h.refs, h.refsN, h.nums, h.numsN, h.outs, h.outsN⟩
theorem Well.pc {N : Nat} {σ : St} (h : Well N σ) (k : Nat) : Well N { σ with pc := k } := ⟨h.now, h.last, h.refs, h.refsN, h.nums, h.numsN, h.outs, h.outsN⟩
theorem Well.num {N : Nat} {σ : St} (h : Well N σ) (i v : Int) (h0 : 0 ≤ v) (h1 : v < 4294967296) : Well N { σ with nums := pu σ.nums i v } :=
  ⟨h.now, h.last, h.refs, h.refsN, by rw [← h.nums]; exact pu_len _ _ _, words_pu h.numsN h0 h1, h.outs, h.outsN⟩
theorem Well.ref {N : Nat} {σ : St} (h : Well N σ) (i v : Int) (h0 : 0 ≤ v) (h1 : v ≤ σ.now.nodes.length) : Well N { σ with refs := pu σ.refs i v } :=
  ⟨h.now, h.last, by rw [← h.refs]; exact pu_len _ _ _, named_pu h.refsN h0 h1, h.nums, h.numsN, h.outs, h.outsN⟩
theorem flag_range (b : Bool) : 0 ≤ flag b ∧ flag b < 4294967296 := by cases b <;> simp [flag]

theorem step_well {N n : Nat} {x : Ins} {σ : St} (hx : x.ok n = true) (h : Well N σ) : Well (N + 1) (step x σ).2 := by
  have h' := h.more (Nat.le_succ N)
  have hr := fun i => named_gt i h.refsN (by omega)
  have hw := fun i => words_gt i h.numsN
  have hsl := fun a i => named_gt i (ndOk_iff.1 (nd_ok h.now a)).2.2.2 (by omega)
  have hwl := fun a i => words_gt i (ndOk_iff.1 (nd_ok h.now a)).2.2.1
  have hro := fun i => named_gt i h.now.named (by omega)
  have hsz := fun a => (ndOk_iff.1 (nd_ok h.now a)).1
  have hwz := fun a => (ndOk_iff.1 (nd_ok h.now a)).2.1
  have hop : 0 ≤ x.op ∧ x.op < 23 := by
    simp only [Ins.ok, one, Bool.and_eq_true, decide_eq_true_eq] at hx
    exact hx.1.1.1
  by_cases h0 : x.op = 0
  · have e : step x σ = step { x with op := 22 } σ := by
      unfold step
      simp only [h0, Int.reduceEq, if_true, if_false, reduceIte]
    rw [e, step_22 σ rfl]
    dsimp only
    split
    · exact h'
    · have := hwz (gt σ.refs x.b); exact h'.num _ _ (by omega) (by omega)
  have hop' : x.op = 1 ∨ x.op = 2 ∨ x.op = 3 ∨ x.op = 4 ∨ x.op = 5 ∨ x.op = 6 ∨ x.op = 7 ∨ x.op = 8 ∨ x.op = 9 ∨ x.op = 10 ∨ x.op = 11 ∨ x.op = 12 ∨ x.op = 13 ∨ x.op = 14 ∨ x.op = 15 ∨ x.op = 16 ∨ x.op = 17 ∨ x.op = 18 ∨ x.op = 19 ∨ x.op = 20 ∨ x.op = 21 ∨ x.op = 22 := by omega
  rcases hop' with e | e | e | e | e | e | e | e | e | e | e | e | e | e | e | e | e | e | e | e | e | e
  · rw [step_1 σ e]; exact h'.num _ _ (rnd_range _).1 (rnd_range _).2
  · rw [step_2 σ e]; exact h'.num _ _ (rnd_range _).1 (rnd_range _).2
  · rw [step_3 σ e]; exact h'.num _ _ (rnd_range _).1 (rnd_range _).2
  · rw [step_4 σ e]; exact h'.num _ _ (rnd_range _).1 (rnd_range _).2
  · rw [step_5 σ e]; exact h'.pc _
  · rw [step_6 σ e]
    dsimp only
    split
    · exact h'.pc _
    · exact h'
  · rw [step_7 σ e]
    have hok : x.b ≤ 15 ∧ x.c ≤ 30 := by
      simp only [Ins.ok, one, Bool.and_eq_true, decide_eq_true_eq] at hx
      exact hx.1.2 e
    refine ⟨h.now.made _ _ hok.1 hok.2, h'.last, by rw [← h.refs]; exact pu_len _ _ _, ?_, h.nums, h.numsN, h.outs, h.outsN⟩
    have hl : (mkN σ.now x.b x.c).nodes.length = σ.now.nodes.length + 1 := by simp [mkN]
    rw [hl]
    exact named_pu (named_more h.refsN (by omega)) (by omega) (by omega)
  · rw [step_8 σ e]
    split
    · exact h'.ref _ _ (hsl _ _).1 (hsl _ _).2
    · exact h'
  · rw [step_9 σ e]
    split
    · have hl : (setSlot σ.now (gt σ.refs x.a) x.c (gt σ.refs x.b)).nodes.length = σ.now.nodes.length := by simp [setSlot]
      exact ⟨(h'.now).setSlot _ _ _ (hr _).1 (hr _).2, h'.last, h.refs, by rw [hl]; exact h.refsN, h.nums, h.numsN, h.outs, h.outsN⟩
    · exact h'
  · rw [step_10 σ e]
    split
    · exact h'.num _ _ (hwl _ _).1 (hwl _ _).2
    · exact h'
  · rw [step_11 σ e]
    split
    · have hl : (setWord σ.now (gt σ.refs x.a) x.c (gt σ.nums x.b)).nodes.length = σ.now.nodes.length := by simp [setWord]
      exact ⟨(h'.now).setWord _ _ _ (hw _).1 (hw _).2, h'.last, h.refs, by rw [hl]; exact h.refsN, h.nums, h.numsN, h.outs, h.outsN⟩
    · exact h'
  · rw [step_12 σ e]; exact h'.ref _ _ (hro _).1 (hro _).2
  · rw [step_13 σ e]; exact ⟨h'.now.root _ _ (hr _).1 (hr _).2, h'.last, h.refs, h.refsN, h.nums, h.numsN, h.outs, h.outsN⟩
  · rw [step_14 σ e]; exact ⟨h'.now, h'.now, h.refs, h.refsN, h.nums, h.numsN, h.outs, h.outsN⟩
  · rw [step_15 σ e]; exact ⟨h'.last, h'.last, rfl, by simp [Gr.named], h.nums, h.numsN, h.outs, h.outsN⟩
  · rw [step_16 σ e]
    dsimp only
    split
    next ho =>
      refine ⟨h'.now, h'.last, h.refs, h.refsN, h.nums, h.numsN, by simp; omega, ?_⟩
      rw [wordsOk_iff]
      intro a ha
      simp only [List.mem_append, List.mem_singleton] at ha
      rcases ha with h1 | rfl
      · exact wordsOk_iff.1 h.outsN a h1
      · exact hw _
    · exact h'
  · rw [step_17 σ e]; exact h'.num _ _ (flag_range _).1 (flag_range _).2
  · rw [step_18 σ e]; exact h'.num _ _ (flag_range _).1 (flag_range _).2
  · rw [step_19 σ e]; exact h'.ref _ _ (by omega) (by omega)
  · rw [step_20 σ e]; exact h'.ref _ _ (hr _).1 (hr _).2
  · rw [step_21 σ e]
    split
    · exact h'
    · have := hsz (gt σ.refs x.b); exact h'.num _ _ (by omega) (by omega)
  · rw [step_22 σ e]
    split
    · exact h'
    · have := hwz (gt σ.refs x.b); exact h'.num _ _ (by omega) (by omega)
theorem begin_well {g : Gr} (h : right g = true) : Well 1000 (begin_ g) := by
  have := sound_right h
  exact ⟨this, this, rfl, by simp [begin_, named], rfl, by simp [begin_, wordsOk], by simp [begin_], by simp [begin_, wordsOk]⟩
theorem insAt_ok {l : List Ins} (hl : ∀ x ∈ l, x.ok l.length = true) {k : Nat} (h : k < l.length) : (insAt l k).ok l.length = true := by
  unfold insAt
  rw [List.getD_eq_getElem?_getD, List.getElem?_eq_getElem h]
  exact hl _ (List.getElem_mem h)
theorem exec_well {l : List Ins} (hl : ∀ x ∈ l, x.ok l.length = true) (n N : Nat) (σ : St) (h : Well N σ) : Well (N + n) (exec l n σ).σ := by
  induction n generalizing N σ with
  | zero => unfold exec; split <;> exact h
  | succ n ih =>
    unfold exec
    split
    next hp =>
      split
      · exact (h.more (by omega)).pc _
      split
      · have := ih (N + 1) _ (step_well (insAt_ok hl hp) (h.pc (σ.pc + 1)))
        exact this.more (by omega)
      · exact (step_well (insAt_ok hl hp) (h.pc (σ.pc + 1))).more (by omega)
    · exact h.more (by omega)

end Go.Proofs.Yteminkohgagedaa.Mo
