/- How the machine's two graphs lie in memory: every list in a block of its own, told apart by tags. -/
import Derived.Test.YteminkohgagedaaGreatQGrNum
import Derived.Test.YteminkohgagedaaGreatQVerPlain
namespace Go.Proofs.YteminkohgagedaaGreat.Mo
open Go.RowKit Go.Proofs.YteminkohgagedaaGreat.Base Go.Proofs.YteminkohgagedaaGreat.Gr Go.Proofs.YteminkohgagedaaGreat.Ver
set_option linter.unusedVariables false
set_option linter.unusedSimpArgs false

/-- The graph that is worked on, the one that counts, registers, the next instruction, what was told. -/
structure St where
  now : Gr
  last : Gr
  refs : List Int
  nums : List Int
  pc : Nat
  outs : List Int

def gt (l : List Int) (i : Int) : Int := l.getD i.toNat 0
def pu (l : List Int) (i v : Int) : List Int := l.set i.toNat v
def rnd (v : Int) : Int := v % 4294967296
theorem bits_rnd (v : Int) : bits .and .i64 v 4294967295 = rnd v := by
  unfold bits rnd
  have h1 : ((BitVec.ofInt IntKind.i64.bits v &&& BitVec.ofInt IntKind.i64.bits 4294967295).toNat : Int) = v % 4294967296 := by
    have h64 : IntKind.i64.bits = 64 := rfl
    rw [h64, BitVec.toNat_and]
    have e : (BitVec.ofInt 64 4294967295).toNat = 2 ^ 32 - 1 := by decide
    rw [e, Nat.and_two_pow_sub_one_eq_mod, BitVec.toNat_ofInt]
    omega
  simp only [h1]
  exact IntWalk.i64_in _ (by omega)
theorem rnd_wrap (v : Int) : rnd (wrap64 v) = rnd v := by unfold rnd wrap64; omega
theorem rnd_range (v : Int) : 0 ≤ rnd v ∧ rnd v < 4294967296 := by unfold rnd; omega
def flag (b : Bool) : Int := if b then 1 else 0

/-- An object. -/
def nd (g : Gr) (a : Int) : Nd := g.nodes.getD (a - 1).toNat ⟨[], []⟩
/-- Why there is no such place: 7 no object, 8 no place. -/
def atE (a i : Int) (l : List Int) : Int := if a = 0 then 7 else if (l.length : Int) ≤ i then 8 else 0
def setSlot (g : Gr) (a i v : Int) : Gr := ⟨g.roots, g.nodes.set (a - 1).toNat ⟨pu (nd g a).slots i v, (nd g a).words⟩⟩
def setWord (g : Gr) (a i v : Int) : Gr := ⟨g.roots, g.nodes.set (a - 1).toNat ⟨(nd g a).slots, pu (nd g a).words i v⟩⟩
def mkN (g : Gr) (s w : Int) : Gr := ⟨g.roots, g.nodes ++ [⟨List.replicate s.toNat 0, List.replicate w.toNat 0⟩]⟩

/-- What an instruction does (Halt is not done). -/
def step (x : Ins) (σ : St) : Int × St :=
  if x.op = 1 then (0, { σ with nums := pu σ.nums x.a (rnd (x.b + 256 * x.c)) })
  else if x.op = 2 then (0, { σ with nums := pu σ.nums x.a (rnd (gt σ.nums x.b + gt σ.nums x.c)) })
  else if x.op = 3 then (0, { σ with nums := pu σ.nums x.a (rnd (gt σ.nums x.b - gt σ.nums x.c)) })
  else if x.op = 4 then (0, { σ with nums := pu σ.nums x.a (rnd (gt σ.nums x.b * gt σ.nums x.c)) })
  else if x.op = 5 then (0, { σ with pc := (x.b + 256 * x.c).toNat })
  else if x.op = 6 then (0, if gt σ.nums x.a = 0 then { σ with pc := (x.b + 256 * x.c).toNat } else σ)
  else if x.op = 7 then (0, { σ with now := mkN σ.now x.b x.c, refs := pu σ.refs x.a (σ.now.nodes.length + 1) })
  else if x.op = 8 then
    if atE (gt σ.refs x.b) x.c (nd σ.now (gt σ.refs x.b)).slots = 0 then (0, { σ with refs := pu σ.refs x.a (gt (nd σ.now (gt σ.refs x.b)).slots x.c) })
    else (atE (gt σ.refs x.b) x.c (nd σ.now (gt σ.refs x.b)).slots, σ)
  else if x.op = 9 then
    if atE (gt σ.refs x.a) x.c (nd σ.now (gt σ.refs x.a)).slots = 0 then (0, { σ with now := setSlot σ.now (gt σ.refs x.a) x.c (gt σ.refs x.b) })
    else (atE (gt σ.refs x.a) x.c (nd σ.now (gt σ.refs x.a)).slots, σ)
  else if x.op = 10 then
    if atE (gt σ.refs x.b) x.c (nd σ.now (gt σ.refs x.b)).words = 0 then (0, { σ with nums := pu σ.nums x.a (gt (nd σ.now (gt σ.refs x.b)).words x.c) })
    else (atE (gt σ.refs x.b) x.c (nd σ.now (gt σ.refs x.b)).words, σ)
  else if x.op = 11 then
    if atE (gt σ.refs x.a) x.c (nd σ.now (gt σ.refs x.a)).words = 0 then (0, { σ with now := setWord σ.now (gt σ.refs x.a) x.c (gt σ.nums x.b) })
    else (atE (gt σ.refs x.a) x.c (nd σ.now (gt σ.refs x.a)).words, σ)
  else if x.op = 12 then (0, { σ with refs := pu σ.refs x.a (gt σ.now.roots x.b) })
  else if x.op = 13 then (0, { σ with now := ⟨pu σ.now.roots x.b (gt σ.refs x.a), σ.now.nodes⟩ })
  else if x.op = 14 then (0, { σ with last := σ.now })
  else if x.op = 15 then (0, { σ with now := σ.last, refs := [0, 0, 0, 0] })
  else if x.op = 16 then (0, if σ.outs.length < 1000 then { σ with outs := σ.outs ++ [gt σ.nums x.a] } else σ)
  else if x.op = 17 then (0, { σ with nums := pu σ.nums x.a (flag (decide (gt σ.refs x.b = 0))) })
  else if x.op = 18 then (0, { σ with nums := pu σ.nums x.a (flag (decide (gt σ.refs x.b = gt σ.refs x.c))) })
  else if x.op = 19 then (0, { σ with refs := pu σ.refs x.a 0 })
  else if x.op = 20 then (0, { σ with refs := pu σ.refs x.a (gt σ.refs x.b) })
  else if x.op = 21 then if gt σ.refs x.b = 0 then (7, σ) else (0, { σ with nums := pu σ.nums x.a ((nd σ.now (gt σ.refs x.b)).slots.length) })
  else if gt σ.refs x.b = 0 then (7, σ) else (0, { σ with nums := pu σ.nums x.a ((nd σ.now (gt σ.refs x.b)).words.length) })

theorem step_1 {x : Ins} (σ : St) (h : x.op = 1) : step x σ = ((0, { σ with nums := pu σ.nums x.a (rnd (x.b + 256 * x.c)) })) := by
  unfold step
  simp only [h, Int.reduceEq, if_true, if_false, reduceIte]
theorem step_2 {x : Ins} (σ : St) (h : x.op = 2) : step x σ = ((0, { σ with nums := pu σ.nums x.a (rnd (gt σ.nums x.b + gt σ.nums x.c)) })) := by
  unfold step
  simp only [h, Int.reduceEq, if_true, if_false, reduceIte]
theorem step_3 {x : Ins} (σ : St) (h : x.op = 3) : step x σ = ((0, { σ with nums := pu σ.nums x.a (rnd (gt σ.nums x.b - gt σ.nums x.c)) })) := by
  unfold step
  simp only [h, Int.reduceEq, if_true, if_false, reduceIte]
theorem step_4 {x : Ins} (σ : St) (h : x.op = 4) : step x σ = ((0, { σ with nums := pu σ.nums x.a (rnd (gt σ.nums x.b * gt σ.nums x.c)) })) := by
  unfold step
  simp only [h, Int.reduceEq, if_true, if_false, reduceIte]
theorem step_5 {x : Ins} (σ : St) (h : x.op = 5) : step x σ = ((0, { σ with pc := (x.b + 256 * x.c).toNat })) := by
  unfold step
  simp only [h, Int.reduceEq, if_true, if_false, reduceIte]
theorem step_6 {x : Ins} (σ : St) (h : x.op = 6) : step x σ = ((0, if gt σ.nums x.a = 0 then { σ with pc := (x.b + 256 * x.c).toNat } else σ)) := by
  unfold step
  simp only [h, Int.reduceEq, if_true, if_false, reduceIte]
theorem step_7 {x : Ins} (σ : St) (h : x.op = 7) : step x σ = ((0, { σ with now := mkN σ.now x.b x.c, refs := pu σ.refs x.a (σ.now.nodes.length + 1) })) := by
  unfold step
  simp only [h, Int.reduceEq, if_true, if_false, reduceIte]
theorem step_8 {x : Ins} (σ : St) (h : x.op = 8) : step x σ = (if atE (gt σ.refs x.b) x.c (nd σ.now (gt σ.refs x.b)).slots = 0 then (0, { σ with refs := pu σ.refs x.a (gt (nd σ.now (gt σ.refs x.b)).slots x.c) })
    else (atE (gt σ.refs x.b) x.c (nd σ.now (gt σ.refs x.b)).slots, σ)) := by
  unfold step
  simp only [h, Int.reduceEq, if_true, if_false, reduceIte]
theorem step_9 {x : Ins} (σ : St) (h : x.op = 9) : step x σ = (if atE (gt σ.refs x.a) x.c (nd σ.now (gt σ.refs x.a)).slots = 0 then (0, { σ with now := setSlot σ.now (gt σ.refs x.a) x.c (gt σ.refs x.b) })
    else (atE (gt σ.refs x.a) x.c (nd σ.now (gt σ.refs x.a)).slots, σ)) := by
  unfold step
  simp only [h, Int.reduceEq, if_true, if_false, reduceIte]
theorem step_10 {x : Ins} (σ : St) (h : x.op = 10) : step x σ = (if atE (gt σ.refs x.b) x.c (nd σ.now (gt σ.refs x.b)).words = 0 then (0, { σ with nums := pu σ.nums x.a (gt (nd σ.now (gt σ.refs x.b)).words x.c) })
    else (atE (gt σ.refs x.b) x.c (nd σ.now (gt σ.refs x.b)).words, σ)) := by
  unfold step
  simp only [h, Int.reduceEq, if_true, if_false, reduceIte]
theorem step_11 {x : Ins} (σ : St) (h : x.op = 11) : step x σ = (if atE (gt σ.refs x.a) x.c (nd σ.now (gt σ.refs x.a)).words = 0 then (0, { σ with now := setWord σ.now (gt σ.refs x.a) x.c (gt σ.nums x.b) })
    else (atE (gt σ.refs x.a) x.c (nd σ.now (gt σ.refs x.a)).words, σ)) := by
  unfold step
  simp only [h, Int.reduceEq, if_true, if_false, reduceIte]
theorem step_12 {x : Ins} (σ : St) (h : x.op = 12) : step x σ = ((0, { σ with refs := pu σ.refs x.a (gt σ.now.roots x.b) })) := by
  unfold step
  simp only [h, Int.reduceEq, if_true, if_false, reduceIte]
theorem step_13 {x : Ins} (σ : St) (h : x.op = 13) : step x σ = ((0, { σ with now := ⟨pu σ.now.roots x.b (gt σ.refs x.a), σ.now.nodes⟩ })) := by
  unfold step
  simp only [h, Int.reduceEq, if_true, if_false, reduceIte]
theorem step_14 {x : Ins} (σ : St) (h : x.op = 14) : step x σ = ((0, { σ with last := σ.now })) := by
  unfold step
  simp only [h, Int.reduceEq, if_true, if_false, reduceIte]
theorem step_15 {x : Ins} (σ : St) (h : x.op = 15) : step x σ = ((0, { σ with now := σ.last, refs := [0, 0, 0, 0] })) := by
  unfold step
  simp only [h, Int.reduceEq, if_true, if_false, reduceIte]
theorem step_16 {x : Ins} (σ : St) (h : x.op = 16) : step x σ = ((0, if σ.outs.length < 1000 then { σ with outs := σ.outs ++ [gt σ.nums x.a] } else σ)) := by
  unfold step
  simp only [h, Int.reduceEq, if_true, if_false, reduceIte]
theorem step_17 {x : Ins} (σ : St) (h : x.op = 17) : step x σ = ((0, { σ with nums := pu σ.nums x.a (flag (decide (gt σ.refs x.b = 0))) })) := by
  unfold step
  simp only [h, Int.reduceEq, if_true, if_false, reduceIte]
theorem step_18 {x : Ins} (σ : St) (h : x.op = 18) : step x σ = ((0, { σ with nums := pu σ.nums x.a (flag (decide (gt σ.refs x.b = gt σ.refs x.c))) })) := by
  unfold step
  simp only [h, Int.reduceEq, if_true, if_false, reduceIte]
theorem step_19 {x : Ins} (σ : St) (h : x.op = 19) : step x σ = ((0, { σ with refs := pu σ.refs x.a 0 })) := by
  unfold step
  simp only [h, Int.reduceEq, if_true, if_false, reduceIte]
theorem step_20 {x : Ins} (σ : St) (h : x.op = 20) : step x σ = ((0, { σ with refs := pu σ.refs x.a (gt σ.refs x.b) })) := by
  unfold step
  simp only [h, Int.reduceEq, if_true, if_false, reduceIte]
theorem step_21 {x : Ins} (σ : St) (h : x.op = 21) : step x σ = (if gt σ.refs x.b = 0 then (7, σ) else (0, { σ with nums := pu σ.nums x.a ((nd σ.now (gt σ.refs x.b)).slots.length) })) := by
  unfold step
  simp only [h, Int.reduceEq, if_true, if_false, reduceIte]
theorem step_22 {x : Ins} (σ : St) (h : x.op = 22) : step x σ = (if gt σ.refs x.b = 0 then (7, σ) else (0, { σ with nums := pu σ.nums x.a ((nd σ.now (gt σ.refs x.b)).words.length) })) := by
  unfold step
  simp only [h, Int.reduceEq, if_true, if_false, reduceIte]
/-- What a program comes to: error, where, fuel left, the machine. -/
structure Res where
  e : Int
  at_ : Nat
  left : Nat
  σ : St

def insAt (l : List Ins) (k : Nat) : Ins := l.getD k ⟨0, 0, 0, 0⟩
def exec (l : List Ins) : Nat → St → Res
  | 0, σ => if σ.pc < l.length then ⟨11, σ.pc, 0, σ⟩ else ⟨0, l.length, 0, σ⟩
  | n + 1, σ =>
    if σ.pc < l.length then
      if (insAt l σ.pc).op = 0 then ⟨0, σ.pc, n, { σ with pc := σ.pc + 1 }⟩
      else if (step (insAt l σ.pc) { σ with pc := σ.pc + 1 }).1 = 0 then exec l n (step (insAt l σ.pc) { σ with pc := σ.pc + 1 }).2
      else ⟨(step (insAt l σ.pc) { σ with pc := σ.pc + 1 }).1, σ.pc, n, (step (insAt l σ.pc) { σ with pc := σ.pc + 1 }).2⟩
    else ⟨0, l.length, n + 1, σ⟩
/-- A machine at its beginning. -/
def begin_ (g : Gr) : St := ⟨g, g, [0, 0, 0, 0], [0, 0, 0, 0], 0, []⟩

/-! ### what stays -/
/-- A graph that may be, of at most n nodes. -/
structure Sound (N : Nat) (g : Gr) : Prop where
  roots : g.roots.length = 8
  size : g.nodes.length ≤ N
  named : named g.roots g.nodes.length = true
  nodes : ∀ x ∈ g.nodes, ndOk x g.nodes.length = true
theorem sound_right {g : Gr} (h : right g = true) : Sound 1000 g := by
  obtain ⟨a, b, c, d⟩ := right_parts h
  exact ⟨a, b, c, d⟩
theorem Sound.more {N M : Nat} {g : Gr} (h : Sound N g) (hm : N ≤ M) : Sound M g := ⟨h.roots, Nat.le_trans h.size hm, h.named, h.nodes⟩
theorem named_iff {l : List Int} {n : Int} : named l n = true ↔ ∀ a ∈ l, 0 ≤ a ∧ a ≤ n := by
  simp [named, List.all_eq_true]
theorem wordsOk_iff {l : List Int} : wordsOk l = true ↔ ∀ a ∈ l, 0 ≤ a ∧ a < 4294967296 := by
  simp [wordsOk, List.all_eq_true]
theorem ndOk_iff {x : Nd} {n : Int} : ndOk x n = true ↔ x.slots.length ≤ 15 ∧ x.words.length ≤ 30 ∧ wordsOk x.words = true ∧ named x.slots n = true := by
  simp only [ndOk, Bool.and_eq_true, decide_eq_true_eq]
  constructor
  · rintro ⟨⟨⟨a, b⟩, c⟩, d⟩; exact ⟨a, b, c, d⟩
  · rintro ⟨a, b, c, d⟩; exact ⟨⟨⟨a, b⟩, c⟩, d⟩
/-- What always is so of a machine. -/
structure Well (N : Nat) (σ : St) : Prop where
  now : Sound N σ.now
  last : Sound N σ.last
  refs : σ.refs.length = 4
  refsN : named σ.refs σ.now.nodes.length = true
  nums : σ.nums.length = 4
  numsN : wordsOk σ.nums = true
  outs : σ.outs.length ≤ 1000
  outsN : wordsOk σ.outs = true

theorem pu_len (l : List Int) (i v : Int) : (pu l i v).length = l.length := by unfold pu; exact List.length_set
theorem mem_pu {l : List Int} {i v a : Int} (h : a ∈ pu l i v) : a ∈ l ∨ a = v := by
  unfold pu at h
  exact List.mem_or_eq_of_mem_set h
theorem gt_mem {l : List Int} {i : Int} (h0 : 0 ≤ i) (h : i < l.length) : gt l i ∈ l := by
  unfold gt
  rw [List.getD_eq_getElem?_getD, List.getElem?_eq_getElem (by omega)]
  exact List.getElem_mem _
theorem gt_or (l : List Int) (i : Int) : gt l i ∈ l ∨ gt l i = 0 := by
  unfold gt
  rw [List.getD_eq_getElem?_getD]
  cases h : l[i.toNat]? with
  | none => right; rfl
  | some v => left; exact List.mem_of_getElem? h
theorem named_pu {l : List Int} {n i v : Int} (h : named l n = true) (h0 : 0 ≤ v) (h1 : v ≤ n) : named (pu l i v) n = true := by
  rw [named_iff] at *
  intro a ha
  rcases mem_pu ha with h2 | rfl
  · exact h a h2
  · exact ⟨h0, h1⟩
theorem words_pu {l : List Int} {i v : Int} (h : wordsOk l = true) (h0 : 0 ≤ v) (h1 : v < 4294967296) : wordsOk (pu l i v) = true := by
  rw [wordsOk_iff] at *
  intro a ha
  rcases mem_pu ha with h2 | rfl
  · exact h a h2
  · exact ⟨h0, h1⟩
theorem named_gt {l : List Int} {n : Int} (i : Int) (h : named l n = true) (hn : 0 ≤ n) : 0 ≤ gt l i ∧ gt l i ≤ n := by
  rw [named_iff] at h
  rcases gt_or l i with h1 | h1
  · exact h _ h1
  · omega
theorem words_gt {l : List Int} (i : Int) (h : wordsOk l = true) : 0 ≤ gt l i ∧ gt l i < 4294967296 := by
  rw [wordsOk_iff] at h
  rcases gt_or l i with h1 | h1
  · exact h _ h1
  · omega
theorem named_more {l : List Int} {n m : Int} (h : named l n = true) (hm : n ≤ m) : named l m = true := by
  rw [named_iff] at *
  intro a ha
  have := h a ha
  omega
theorem ndOk_more {x : Nd} {n m : Int} (h : ndOk x n = true) (hm : n ≤ m) : ndOk x m = true := by
  rw [ndOk_iff] at *
  exact ⟨h.1, h.2.1, h.2.2.1, named_more h.2.2.2 hm⟩
theorem nd_ok {N : Nat} {g : Gr} (h : Sound N g) (a : Int) : ndOk (nd g a) g.nodes.length = true := by
  unfold nd
  rw [List.getD_eq_getElem?_getD]
  cases e : g.nodes[(a - 1).toNat]? with
  | none => rw [ndOk_iff]; simp [named, wordsOk]
  | some x => exact h.nodes x (List.mem_of_getElem? e)
theorem nd_at {g : Gr} {a : Int} (h : 1 ≤ a) (h1 : a ≤ g.nodes.length) : nd g a = g.nodes[(a - 1).toNat]'(by omega) := by
  unfold nd
  rw [List.getD_eq_getElem?_getD, List.getElem?_eq_getElem (by omega)]
  rfl
theorem nd_nat {g : Gr} {j : Nat} (h : j < g.nodes.length) : nd g ((j : Int) + 1) = g.nodes[j] := by
  rw [nd_at (by omega) (by omega)]
  congr 1
  omega
theorem gt_nat {l : List Int} {j : Nat} (h : j < l.length) : gt l (j : Int) = l[j] := by
  unfold gt
  rw [List.getD_eq_getElem?_getD, Int.toNat_natCast, List.getElem?_eq_getElem h]
  rfl
theorem Sound.set {N : Nat} {g : Gr} (h : Sound N g) (k : Nat) (x : Nd) (hx : ndOk x g.nodes.length = true) : Sound N ⟨g.roots, g.nodes.set k x⟩ := by
  refine ⟨h.roots, by simpa using h.size, by simpa using h.named, fun y hy => ?_⟩
  simp only [List.length_set]
  rcases List.mem_or_eq_of_mem_set hy with h1 | rfl
  · exact h.nodes y h1
  · exact hx
theorem Sound.setSlot {N : Nat} {g : Gr} (h : Sound N g) (a i v : Int) (h0 : 0 ≤ v) (h1 : v ≤ g.nodes.length) : Sound N (setSlot g a i v) := by
  refine h.set _ _ ?_
  have := ndOk_iff.1 (nd_ok h a)
  exact ndOk_iff.2 ⟨by rw [pu_len]; exact this.1, this.2.1, this.2.2.1, named_pu this.2.2.2 h0 h1⟩
theorem Sound.setWord {N : Nat} {g : Gr} (h : Sound N g) (a i v : Int) (h0 : 0 ≤ v) (h1 : v < 4294967296) : Sound N (setWord g a i v) := by
  refine h.set _ _ ?_
  have := ndOk_iff.1 (nd_ok h a)
  exact ndOk_iff.2 ⟨this.1, by rw [pu_len]; exact this.2.1, words_pu this.2.2.1 h0 h1, this.2.2.2⟩
theorem Sound.made {N : Nat} {g : Gr} (h : Sound N g) (s w : Int) (hs : s ≤ 15) (hw : w ≤ 30) : Sound (N + 1) (mkN g s w) := by
  have hl : (mkN g s w).nodes.length = g.nodes.length + 1 := by simp [mkN]
  have hsz := h.size
  refine ⟨h.roots, by rw [hl]; omega, ?_, fun x hx => ?_⟩
  · rw [hl]
    exact named_more h.named (by omega)
  · rw [hl]
    simp only [mkN, List.mem_append, List.mem_singleton] at hx
    rcases hx with h1 | rfl
    · exact ndOk_more (h.nodes x h1) (by omega)
    · rw [ndOk_iff, named_iff, wordsOk_iff]
      refine ⟨by simp; omega, by simp; omega, fun a ha => ?_, fun a ha => ?_⟩
      · have := List.eq_of_mem_replicate ha; omega
      · have := List.eq_of_mem_replicate ha; omega
theorem Sound.root {N : Nat} {g : Gr} (h : Sound N g) (i v : Int) (h0 : 0 ≤ v) (h1 : v ≤ g.nodes.length) : Sound N ⟨pu g.roots i v, g.nodes⟩ :=
  ⟨by rw [← h.roots]; exact pu_len _ _ _, h.size, named_pu h.named h0 h1, h.nodes⟩
theorem Well.more {N M : Nat} {σ : St} (h : Well N σ) (hm : N ≤ M) : Well M σ := ⟨h.now.more hm, h.last.more hm, h.refs, h.refsN, h.nums, h.numsN, h.outs, h.outsN⟩
theorem Well.pc {N : Nat} {σ : St} (h : Well N σ) (k : Nat) : Well N { σ with pc := k } := ⟨h.now, h.last, h.refs, h.refsN, h.nums, h.numsN, h.outs, h.outsN⟩
theorem Well.num {N : Nat} {σ : St} (h : Well N σ) (i v : Int) (h0 : 0 ≤ v) (h1 : v < 4294967296) : Well N { σ with nums := pu σ.nums i v } :=
  ⟨h.now, h.last, h.refs, h.refsN, by rw [← h.nums]; exact pu_len _ _ _, words_pu h.numsN h0 h1, h.outs, h.outsN⟩
theorem Well.ref {N : Nat} {σ : St} (h : Well N σ) (i v : Int) (h0 : 0 ≤ v) (h1 : v ≤ σ.now.nodes.length) : Well N { σ with refs := pu σ.refs i v } :=
  ⟨h.now, h.last, by rw [← h.refs]; exact pu_len _ _ _, named_pu h.refsN h0 h1, h.nums, h.numsN, h.outs, h.outsN⟩
theorem flag_range (b : Bool) : 0 ≤ flag b ∧ flag b < 4294967296 := by cases b <;> simp [flag]

theorem step_well {N n : Nat} {x : Ins} {σ : St} (hx : x.ok n = true) (h : Well N σ) : Well (N + 1) (step x σ).2 := by
  have h' := h.more (Nat.le_succ N)
  have hr := fun i => named_gt i h.refsN (by omega)
  have hw := fun i => words_gt i h.numsN
  have hsl := fun a i => named_gt i (ndOk_iff.1 (nd_ok h.now a)).2.2.2 (by omega)
  have hwl := fun a i => words_gt i (ndOk_iff.1 (nd_ok h.now a)).2.2.1
  have hro := fun i => named_gt i h.now.named (by omega)
  have hsz := fun a => (ndOk_iff.1 (nd_ok h.now a)).1
  have hwz := fun a => (ndOk_iff.1 (nd_ok h.now a)).2.1
  have hop : 0 ≤ x.op ∧ x.op < 23 := by
    simp only [Ins.ok, one, Bool.and_eq_true, decide_eq_true_eq] at hx
    exact hx.1.1.1
  by_cases h0 : x.op = 0
  · have e : step x σ = step { x with op := 22 } σ := by
      unfold step
      simp only [h0, Int.reduceEq, if_true, if_false, reduceIte]
    rw [e, step_22 σ rfl]
    dsimp only
    split
    · exact h'
    · have := hwz (gt σ.refs x.b); exact h'.num _ _ (by omega) (by omega)
  have hop' : x.op = 1 ∨ x.op = 2 ∨ x.op = 3 ∨ x.op = 4 ∨ x.op = 5 ∨ x.op = 6 ∨ x.op = 7 ∨ x.op = 8 ∨ x.op = 9 ∨ x.op = 10 ∨ x.op = 11 ∨ x.op = 12 ∨ x.op = 13 ∨ x.op = 14 ∨ x.op = 15 ∨ x.op = 16 ∨ x.op = 17 ∨ x.op = 18 ∨ x.op = 19 ∨ x.op = 20 ∨ x.op = 21 ∨ x.op = 22 := by omega
  rcases hop' with e | e | e | e | e | e | e | e | e | e | e | e | e | e | e | e | e | e | e | e | e | e
  · rw [step_1 σ e]; exact h'.num _ _ (rnd_range _).1 (rnd_range _).2
  · rw [step_2 σ e]; exact h'.num _ _ (rnd_range _).1 (rnd_range _).2
  · rw [step_3 σ e]; exact h'.num _ _ (rnd_range _).1 (rnd_range _).2
  · rw [step_4 σ e]; exact h'.num _ _ (rnd_range _).1 (rnd_range _).2
  · rw [step_5 σ e]; exact h'.pc _
  · rw [step_6 σ e]
    dsimp only
    split
    · exact h'.pc _
    · exact h'
  · rw [step_7 σ e]
    have hok : x.b ≤ 15 ∧ x.c ≤ 30 := by
      simp only [Ins.ok, one, Bool.and_eq_true, decide_eq_true_eq] at hx
      exact hx.1.2 e
    refine ⟨h.now.made _ _ hok.1 hok.2, h'.last, by rw [← h.refs]; exact pu_len _ _ _, ?_, h.nums, h.numsN, h.outs, h.outsN⟩
    have hl : (mkN σ.now x.b x.c).nodes.length = σ.now.nodes.length + 1 := by simp [mkN]
    rw [hl]
    exact named_pu (named_more h.refsN (by omega)) (by omega) (by omega)
  · rw [step_8 σ e]
    split
    · exact h'.ref _ _ (hsl _ _).1 (hsl _ _).2
    · exact h'
  · rw [step_9 σ e]
    split
    · have hl : (setSlot σ.now (gt σ.refs x.a) x.c (gt σ.refs x.b)).nodes.length = σ.now.nodes.length := by simp [setSlot]
      exact ⟨(h'.now).setSlot _ _ _ (hr _).1 (hr _).2, h'.last, h.refs, by rw [hl]; exact h.refsN, h.nums, h.numsN, h.outs, h.outsN⟩
    · exact h'
  · rw [step_10 σ e]
    split
    · exact h'.num _ _ (hwl _ _).1 (hwl _ _).2
    · exact h'
  · rw [step_11 σ e]
    split
    · have hl : (setWord σ.now (gt σ.refs x.a) x.c (gt σ.nums x.b)).nodes.length = σ.now.nodes.length := by simp [setWord]
      exact ⟨(h'.now).setWord _ _ _ (hw _).1 (hw _).2, h'.last, h.refs, by rw [hl]; exact h.refsN, h.nums, h.numsN, h.outs, h.outsN⟩
    · exact h'
  · rw [step_12 σ e]; exact h'.ref _ _ (hro _).1 (hro _).2
  · rw [step_13 σ e]; exact ⟨h'.now.root _ _ (hr _).1 (hr _).2, h'.last, h.refs, h.refsN, h.nums, h.numsN, h.outs, h.outsN⟩
  · rw [step_14 σ e]; exact ⟨h'.now, h'.now, h.refs, h.refsN, h.nums, h.numsN, h.outs, h.outsN⟩
  · rw [step_15 σ e]; exact ⟨h'.last, h'.last, rfl, by simp [Gr.named], h.nums, h.numsN, h.outs, h.outsN⟩
  · rw [step_16 σ e]
    dsimp only
    split
    next ho =>
      refine ⟨h'.now, h'.last, h.refs, h.refsN, h.nums, h.numsN, by simp; omega, ?_⟩
      rw [wordsOk_iff]
      intro a ha
      simp only [List.mem_append, List.mem_singleton] at ha
      rcases ha with h1 | rfl
      · exact wordsOk_iff.1 h.outsN a h1
      · exact hw _
    · exact h'
  · rw [step_17 σ e]; exact h'.num _ _ (flag_range _).1 (flag_range _).2
  · rw [step_18 σ e]; exact h'.num _ _ (flag_range _).1 (flag_range _).2
  · rw [step_19 σ e]; exact h'.ref _ _ (by omega) (by omega)
  · rw [step_20 σ e]; exact h'.ref _ _ (hr _).1 (hr _).2
  · rw [step_21 σ e]
    split
    · exact h'
    · have := hsz (gt σ.refs x.b); exact h'.num _ _ (by omega) (by omega)
  · rw [step_22 σ e]
    split
    · exact h'
    · have := hwz (gt σ.refs x.b); exact h'.num _ _ (by omega) (by omega)
theorem begin_well {g : Gr} (h : right g = true) : Well 1000 (begin_ g) := by
  have := sound_right h
  exact ⟨this, this, rfl, by simp [begin_, named], rfl, by simp [begin_, wordsOk], by simp [begin_], by simp [begin_, wordsOk]⟩
theorem insAt_ok {l : List Ins} (hl : ∀ x ∈ l, x.ok l.length = true) {k : Nat} (h : k < l.length) : (insAt l k).ok l.length = true := by
  unfold insAt
  rw [List.getD_eq_getElem?_getD, List.getElem?_eq_getElem h]
  exact hl _ (List.getElem_mem h)
theorem exec_well {l : List Ins} (hl : ∀ x ∈ l, x.ok l.length = true) (n N : Nat) (σ : St) (h : Well N σ) : Well (N + n) (exec l n σ).σ := by
  induction n generalizing N σ with
  | zero => unfold exec; split <;> exact h
  | succ n ih =>
    unfold exec
    split
    next hp =>
      split
      · exact (h.more (by omega)).pc _
      split
      · have := ih (N + 1) _ (step_well (insAt_ok hl hp) (h.pc (σ.pc + 1)))
        exact this.more (by omega)
      · exact (step_well (insAt_ok hl hp) (h.pc (σ.pc + 1))).more (by omega)
    · exact h.more (by omega)

end Go.Proofs.YteminkohgagedaaGreat.Mo
namespace Go.Proofs.YteminkohgagedaaGreat.Gr
open Go.RowKit Go.Proofs.YteminkohgagedaaGreat.Base
set_option linter.unusedVariables false
set_option linter.unusedSimpArgs false

theorem box_zero2 (w : World) (cs : Array Value) (t : TypeId) (o : Obj) : Below w.heap.size w ((w.alloc (.cells cs t)).alloc o) := below_then (below_1 _ _) (below_1 _ _)
/-- A block from base on that is none of the hot ones. -/
structure Cold (w : World) (hot : Nat → Prop) (base k : Nat) : Prop where
  lo : base ≤ k
  lt : k < w.heap.size
  no : ¬ hot k
theorem Cold.step {w w' : World} {hot hot' : Nat → Prop} {base k : Nat} (h : Cold w hot base k) (hs : w.heap.size ≤ w'.heap.size) (hh : ∀ k, hot' k → hot k ∨ w.heap.size ≤ k) : Cold w' hot' base k :=
  ⟨h.lo, Nat.lt_of_lt_of_le h.lt hs, fun e => by
    rcases hh k e with h1 | h1
    · exact h.no h1
    · have := h.lt; omega⟩
/-- A list of numbers in a cold block. -/
def CInts (w : World) (hot : Nat → Prop) (base : Nat) (A : Option Addr) (l : List Int) : Prop := Ints w A l ∧ ∀ ad, A = some ad → 0 < l.length → Cold w hot base ad.block
theorem ints_empty (w : World) (A : Option Addr) : Ints w A [] := ⟨⟨by simp [enc], fun h => absurd h (by simp [enc])⟩, by simp⟩
theorem CInts.step {w w' : World} {hot hot' S : Nat → Prop} {base : Nat} {A : Option Addr} {l : List Int} (h : CInts w hot base A l) (hm : Mod S w w') (hS : ∀ b, b < w.heap.size → S b → hot b ∨ b < base) (hh : ∀ k, hot' k → hot k ∨ w.heap.size ≤ k) : CInts w' hot' base A l := by
  refine ⟨?_, fun ad e hl => (h.2 ad e hl).step hm.size hh⟩
  rcases Nat.eq_zero_or_pos l.length with h0 | h0
  · rw [List.eq_nil_of_length_eq_zero h0]
    exact ints_empty _ _
  · exact h.1.mod hm (fun ad e hs => by
      have hc := h.2 ad e h0
      rcases hS _ hc.lt hs with h1 | h1
      · exact hc.no h1
      · have := hc.lo; omega)
theorem CInts.of_own {w : World} {hot : Nat → Prop} {base base' : Nat} {e : TypeId} {c n : Nat} {A : Option Addr} {l : List Int} (h : w.ownsRow base' e 1 (.slice A n c) n (enc ic l)) (hn : n ≤ 17592186044416) (hb : base ≤ base') (hno : ∀ k, (Value.slice A n c).ownBlock = some k → ¬ hot k) : CInts w hot base A l :=
  ⟨Ints.of_own h hn, fun ad e _ => by
    have h1 := own_block h ad.block (by rw [e]; rfl)
    exact ⟨by omega, h1.2, hno _ (by rw [e]; rfl)⟩⟩
theorem CInts.of_old {w w' : World} {hot : Nat → Prop} {A : Option Addr} {l : List Int} (h : Ints w A l) (hb : Below w.heap.size w w') (hh : ∀ k, hot k → w.heap.size ≤ k) : CInts w' hot 0 A l :=
  ⟨h.below hb, fun ad e hl => by
    have hlt : ad.block < w.heap.size := by
      obtain ⟨ad', e', hc⟩ := h.at_ 0 hl
      rw [e] at e'
      injection e' with e'
      subst e'
      have := cell_lt hc
      rw [block_of_add] at this
      exact this
    exact ⟨Nat.zero_le _, Nat.lt_of_lt_of_le hlt hb.size, fun hk => by have := hh _ hk; omega⟩⟩
/-- A row of nodes. -/
structure NdRow (w : World) (hot : Nat → Prop) (base : Nat) (vN : Value) (xs : List Value) (ns : List Nd) : Prop where
  own : w.ownsRow base 55 2 vN ns.length xs
  built : ∀ j, (h : j < ns.length) → ∃ A c B d, xs[j * 2]? = some (.slice A ns[j].slots.length c) ∧ xs[j * 2 + 1]? = some (.slice B ns[j].words.length d) ∧ CInts w hot base A ns[j].slots ∧ CInts w hot base B ns[j].words
  hotN : ∀ k, vN.ownBlock = some k → hot k
theorem NdRow.nil (w : World) (hot : Nat → Prop) (base : Nat) : NdRow w hot base (.slice none 0 0) [] [] := ⟨own_nil _ _ _ _, fun j h => absurd h (by simp), fun k h => by simp [Value.ownBlock] at h⟩
theorem NdRow.step {w w' : World} {hot hot' S : Nat → Prop} {base : Nat} {vN : Value} {xs : List Value} {ns : List Nd} (h : NdRow w hot base vN xs ns) (hm : Mod S w w') (hS : ∀ b, b < w.heap.size → S b → (hot b ∨ b < base) ∧ vN.ownBlock ≠ some b)
    (hh : ∀ k, hot' k → hot k ∨ w.heap.size ≤ k) (hN : ∀ k, vN.ownBlock = some k → hot' k) : NdRow w' hot' base vN xs ns :=
  ⟨own_mod h.own hm (fun k hk hs => (hS k (own_block h.own k hk).2 hs).2 hk), fun j hj => by
    obtain ⟨A, c, B, d, x1, x2, i1, i2⟩ := h.built j hj
    exact ⟨A, c, B, d, x1, x2, i1.step hm (fun b hb hs => (hS b hb hs).1) hh, i2.step hm (fun b hb hs => (hS b hb hs).1) hh⟩, hN⟩
theorem NdRow.snoc {w w4 : World} {hot hot' : Nat → Prop} {base : Nat} {vN v4 : Value} {xs : List Value} {ns : List Nd} (h : NdRow w hot base vN xs ns) (x : Nd) {A B : Option Addr} {c d : Nat} (hA : CInts w hot base A x.slots) (hB : CInts w hot base B x.words)
    (hg : w.grownBy w4 vN.ownBlock) (ho : w4.ownsRow base 55 2 v4 (ns.length + 1) (xs ++ [.slice A x.slots.length c, .slice B x.words.length d])) (hh : ∀ k, hot' k → hot k ∨ w.heap.size ≤ k) (hN : ∀ k, v4.ownBlock = some k → hot' k) :
    NdRow w4 hot' base v4 (xs ++ [.slice A x.slots.length c, .slice B x.words.length d]) (ns ++ [x]) := by
  have hS : ∀ b, b < w.heap.size → some b = vN.ownBlock → hot b ∨ b < base := fun b _ e => .inl (h.hotN b e.symm)
  have hl : xs.length = ns.length * 2 := h.own.1
  refine ⟨by rw [List.length_append]; exact ho, fun j hj => ?_, hN⟩
  rw [List.length_append] at hj
  simp only [List.length_cons, List.length_nil] at hj
  by_cases hlt : j < ns.length
  · rw [List.getElem_append_left hlt]
    obtain ⟨A', c', B', d', x1, x2, i1, i2⟩ := h.built j hlt
    refine ⟨A', c', B', d', ?_, ?_, i1.step (Mod.of_grown hg) hS hh, i2.step (Mod.of_grown hg) hS hh⟩
    · rw [List.getElem?_append_left (by omega)]; exact x1
    · rw [List.getElem?_append_left (by omega)]; exact x2
  · have hje : j = ns.length := by omega
    subst hje
    rw [List.getElem_append_right (by omega)]
    simp only [Nat.sub_self, List.getElem_cons_zero]
    refine ⟨A, c, B, d, ?_, ?_, hA.step (Mod.of_grown hg) hS hh, hB.step (Mod.of_grown hg) hS hh⟩
    · rw [List.getElem?_append_right (by omega), show ns.length * 2 - xs.length = 0 by omega]; rfl
    · rw [List.getElem?_append_right (by omega), show ns.length * 2 + 1 - xs.length = 1 by omega]; rfl
theorem NdRow.nodes {w w' : World} {hot S : Nat → Prop} {base : Nat} {A : Option Addr} {n c : Nat} {xs : List Value} {ns : List Nd} (h : NdRow w hot base (.slice A n c) xs ns) (hm : Mod S w w') (hS : ∀ b, b < w.heap.size → S b → (hot b ∨ b < base) ∧ (Value.slice A n c).ownBlock ≠ some b) (hl : ns.length ≤ 17592186044416) : Nodes w' A ns := by
  obtain ⟨A', c', e, _⟩ := own_form h.own
  injection e with e1 e2 e3
  subst e1 e2
  refine ⟨hl, fun i hi => ?_⟩
  obtain ⟨A', c', B', d', x1, x2, i1, i2⟩ := h.built i hi
  have hr := Reads.of_own h.own
  obtain ⟨ad, rfl, hc⟩ := hr.2 (by rw [hr.1]; omega)
  have hcell : ∀ j u, xs[j]? = some u → w'.cell? (ad.add j) = some u := fun j u hu => by
    have h1 := hc j u hu
    rw [World.cell?_of_block (hm.block _ (cell_lt h1) (fun hs => by
      refine (hS _ (cell_lt h1) hs).2 ?_
      rw [block_of_add]
      rfl))]
    exact h1
  have hh : ∀ k, hot k → hot k ∨ w.heap.size ≤ k := fun k h => .inl h
  refine ⟨ad, rfl, A', c', B', d', hcell _ _ x1, ?_, (i1.step hm (fun b hb hs => (hS b hb hs).1) hh).1, (i2.step hm (fun b hb hs => (hS b hb hs).1) hh).1⟩
  have h2 := hcell _ _ x2
  rw [← add_of_add] at h2
  exact h2
/-- A graph out of such a row. -/
theorem NdRow.firm {w : World} {hot : Nat → Prop} {base B : Nat} {A R : Option Addr} {n c cr : Nat} {xs : List Value} {ns : List Nd} {rs : List Int} (h : NdRow w hot base (.slice A n c) xs ns) (hR : CInts w hot base R rs) (hB : B ≤ base) (hl : ns.length ≤ 17592186044416) :
    Firm B w (.agg #[.slice R rs.length cr, .slice A ns.length c]) ⟨rs, ns⟩ := fun S w' hm hs => by
  have hS : ∀ b, b < w.heap.size → S b → (hot b ∨ b < base) ∧ (Value.slice A n c).ownBlock ≠ some b := fun b _ hb => ⟨.inr (by have := hs b hb; omega), fun e => by have := (own_block h.own b e).1; have := hs b hb; omega⟩
  exact ⟨R, cr, A, c, rfl, (hR.step hm (fun b hb h => (hS b hb h).1) (fun k h => .inl h)).1, h.nodes hm hS hl⟩

theorem grow_keep {w W' w4 : World} {Y : Nat} {t : TypeId} {cs : Array Value} (h : Blk w Y t cs) (ob : Obj) (hl : Like (w.alloc ob) W') {row : Option Nat} (hg : W'.grownBy w4 row) (hn : row ≠ some Y) : Blk w4 Y t cs :=
  Base.Blk.mod (Blk.like (h.alloc ob) hl) (Mod.of_grown hg) (fun e => hn e.symm)
theorem grow_mod {S : Nat → Prop} {w0 w W' w4 : World} (hm : Mod S w0 w) (ob : Obj) (hl : Like (w.alloc ob) W') {row : Option Nat} (hg : W'.grownBy w4 row) (hr : ∀ b, row = some b → b < w0.heap.size → S b) : Mod S w0 w4 :=
  Mod.trans (Mod.like (Mod.trans hm (Mod.of_below (S := fun _ => False) (below_1 w ob)) (fun _ _ h => h.elim)) hl) (Mod.of_grown hg) (fun b hb h => hr b h.symm hb)
theorem own_ahead {w W' : World} {base e size n : Nat} {v : Value} {xs : List Value} (h : w.ownsRow base e size v n xs) (ob : Obj) (hl : Like (w.alloc ob) W') : W'.ownsRow base e size v n xs := own_like (own_below h (below_1 _ _)) hl

/-- One more node, and the row is stored into its variable. -/
theorem row_round {w W' w4 : World} {base X k : Nat} {vN v4 : Value} {xs : List Value} {ns : List Nd} (h : NdRow w (fun b => b = X ∨ vN.ownBlock = some b) base vN xs ns) (x : Nd) {A B : Option Addr} {c d la lb : Nat} (hla : x.slots.length = la) (hlb : x.words.length = lb)
    (hA : CInts w (fun b => b = X ∨ vN.ownBlock = some b) base A x.slots) (hB : CInts w (fun b => b = X ∨ vN.ownBlock = some b) base B x.words) (hk : ns.length = k) (hX : X < w.heap.size) (hNX : vN.ownBlock ≠ some X)
    (ob : Obj) (hl : Like (w.alloc ob) W') (hg : W'.grownBy w4 vN.ownBlock) (ho : w4.ownsRow base 55 2 v4 (k + 1) (xs ++ [.slice A la c, .slice B lb d]))
    (hat : v4.ownBlock = vN.ownBlock ∨ v4.ownBlock = some W'.heap.size) (off : Nat) :
    NdRow (w4.setCell ⟨X, off, none⟩ v4) (fun b => b = X ∨ v4.ownBlock = some b) base v4 (xs ++ [.slice A la c, .slice B lb d]) (ns ++ [x]) ∧
    Mod (fun b => b = X ∨ vN.ownBlock = some b) w (w4.setCell ⟨X, off, none⟩ v4) := by
  subst hk hla hlb
  have z1 : W'.heap.size = w.heap.size + 1 := by rw [hl.heap]; simp
  have m1 : Mod (fun _ => False) w W' := Mod.like (Mod.of_below (below_1 w ob)) hl
  have h1 : NdRow W' (fun b => b = X ∨ vN.ownBlock = some b) base vN xs ns := h.step m1 (fun _ _ h => h.elim) (fun k h => .inl h) h.hotN
  have hA1 : CInts W' (fun b => b = X ∨ vN.ownBlock = some b) base A x.slots := hA.step m1 (fun _ _ h => h.elim) (fun k h => .inl h)
  have hB1 : CInts W' (fun b => b = X ∨ vN.ownBlock = some b) base B x.words := hB.step m1 (fun _ _ h => h.elim) (fun k h => .inl h)
  have hv : v4.ownBlock ≠ some X := by
    rcases hat with e | e
    · rw [e]; exact hNX
    · rw [e]; intro e; injection e with e; omega
  have h2 : NdRow w4 (fun b => b = X ∨ v4.ownBlock = some b) base v4 (xs ++ [.slice A x.slots.length c, .slice B x.words.length d]) (ns ++ [x]) := by
    refine h1.snoc x hA1 hB1 hg ho ?_ (fun k h => .inr h)
    rintro b (e | e)
    · exact .inl (.inl e)
    · rcases hat with e' | e'
      · rw [e'] at e; exact .inl (.inr e)
      · rw [e'] at e; injection e with e; exact .inr (by omega)
  have m2 : Mod (fun b => b = X) w4 (w4.setCell ⟨X, off, none⟩ v4) := mod_set' (S := fun b => b = X) (Mod.refl _ _) rfl _
  refine ⟨h2.step m2 ?_ (fun k h => .inl h) (fun k h => .inr h), Mod.trans (Mod.trans (m1.mono (fun _ _ h => h.elim)) (Mod.of_grown hg) (fun b _ e => .inr e.symm)) m2 (fun b _ e => .inl e)⟩
  rintro b _ rfl
  exact ⟨.inl (.inl rfl), hv⟩

end Go.Proofs.YteminkohgagedaaGreat.Gr
namespace Go.Proofs.YteminkohgagedaaGreat.Mo
open Go.RowKit Go.Proofs.YteminkohgagedaaGreat.Base Go.Proofs.YteminkohgagedaaGreat.Gr Go.Proofs.YteminkohgagedaaGreat.Ver
set_option linter.unusedVariables false
set_option linter.unusedSimpArgs false

/-- What a block is for; b: of the graph that counts. -/
inductive Tag where
  | other
  | heap
  | roots (b : Bool)
  | nodes (b : Bool)
  | slots (b : Bool) (j : Nat)
  | words (b : Bool) (j : Nat)
deriving DecidableEq
def Tag.side : Tag → Option Bool
  | .other => none
  | .heap => none
  | .roots b => some b
  | .nodes b => some b
  | .slots b _ => some b
  | .words b _ => some b

/-! ### rows of one's own: a cell is written -/
theorem own_set {w : World} {base e n c g : Nat} {xs : List Value} (h : w.ownsRow base e 1 (.slice (some ⟨g, 0, none⟩) n c) n xs) (i : Nat) (u : Value) : (w.setCell ⟨g, i, none⟩ u).ownsRow base e 1 (.slice (some ⟨g, 0, none⟩) n c) n (xs.set i u) := by
  obtain ⟨h1, h2⟩ := h
  rcases h2 with ⟨h2, _⟩ | ⟨g', cap, cur, e1, hg, hh, hn, hc, hs, ht⟩
  · cases h2
  · injection e1 with e1 e2 e3
    injection e1 with e1
    injection e1 with e1
    subst e1 e3
    refine ⟨by rw [List.length_set]; exact h1, .inr ⟨g, c, cur.setIfInBounds i u, rfl, hg, Blk.set_ (w := w) hh i u, hn, hc, by rw [Array.size_setIfInBounds]; exact hs, ?_⟩⟩
    rw [Array.toList_setIfInBounds, List.take_set, ht]
theorem own_set2 {w : World} {base e n c g : Nat} {xs : List Value} (h : w.ownsRow base e 2 (.slice (some ⟨g, 0, none⟩) n c) n xs) (i : Nat) (u : Value) : (w.setCell ⟨g, i, none⟩ u).ownsRow base e 2 (.slice (some ⟨g, 0, none⟩) n c) n (xs.set i u) := by
  obtain ⟨h1, h2⟩ := h
  rcases h2 with ⟨h2, _⟩ | ⟨g', cap, cur, e1, hg, hh, hn, hc, hs, ht⟩
  · cases h2
  · injection e1 with e1 e2 e3
    injection e1 with e1
    injection e1 with e1
    subst e1 e3
    refine ⟨by rw [List.length_set]; exact h1, .inr ⟨g, c, cur.setIfInBounds i u, rfl, hg, Blk.set_ (w := w) hh i u, hn, hc, by rw [Array.size_setIfInBounds]; exact hs, ?_⟩⟩
    rw [Array.toList_setIfInBounds, List.take_set, ht]
theorem own_some {w : World} {base e size n c : Nat} {A : Option Addr} {xs : List Value} (h : w.ownsRow base e size (.slice A n c) n xs) (h0 : 0 < n) : ∃ g, A = some ⟨g, 0, none⟩ := by
  rcases h.2 with ⟨h2, h3⟩ | ⟨g', cap, cur, e1, hg, hh, hn, hc, hs, ht⟩
  · omega
  · injection e1 with e1 e2 e3
    exact ⟨g', e1⟩
theorem own_frozen {w : World} {base e size n c g : Nat} {xs : List Value} (h : w.ownsRow base e size (.slice (some ⟨g, 0, none⟩) n c) n xs) (i : Nat) : w.frozen? ⟨g, i, none⟩ = false := by
  rcases h.2 with ⟨h2, h3⟩ | ⟨g', cap, cur, e1, hg, hh, hn, hc, hs, ht⟩
  · cases h2
  · injection e1 with e1 e2 e3
    injection e1 with e1
    injection e1 with e1
    subst e1
    exact Blk.frozen (w := w) hh i
theorem own_cell {w : World} {base e size n c g : Nat} {xs : List Value} (h : w.ownsRow base e size (.slice (some ⟨g, 0, none⟩) n c) n xs) (i : Nat) (hi : i < xs.length) : w.cell? ⟨g, i, none⟩ = some xs[i] := by
  have hr := Reads.of_own h
  obtain ⟨ad, e1, hc⟩ := hr.2 (by omega)
  injection e1 with e1
  subst e1
  have := hc i xs[i] (List.getElem?_eq_getElem hi)
  rwa [add_of_zero] at this
theorem ic_pu (l : List Int) (i : Nat) (v : Int) : enc ic (pu l i v) = (enc ic l).set i (.int .i64 v) := by
  rw [enc_ic, enc_ic, pu, Int.toNat_natCast, List.map_set]
theorem own_nil_any (w : World) (base e size : Nat) : w.ownsRow base e size (.slice none 0 0) 0 (enc ic []) := own_nil _ _ _ _

/-! ### a list of numbers -/
/-- A list of numbers in a block for t. -/
def Pc (w : World) (o : Nat → Tag) (t : Tag) (A : Option Addr) (c : Nat) (l : List Int) : Prop :=
  w.ownsRow 0 3 1 (.slice A l.length c) l.length (enc ic l) ∧ ∀ ad, A = some ad → o ad.block = t
theorem block_some {ad : Addr} {n c : Nat} : ∀ k, (Value.slice (some ad) n c).ownBlock = some k ↔ k = ad.block := by
  intro k
  simp only [Value.ownBlock, Option.some.injEq]
  exact ⟨fun h => h.symm, fun h => h.symm⟩
theorem block_iff {A : Option Addr} {n c k : Nat} (h : (Value.slice A n c).ownBlock = some k) : ∃ ad, A = some ad ∧ ad.block = k := by
  cases A with
  | none => simp [Value.ownBlock] at h
  | some ad => exact ⟨ad, rfl, by simpa [Value.ownBlock] using h⟩
section
variable {w w' : World} {o o' : Nat → Tag} {t : Tag} {A : Option Addr} {c : Nat} {l : List Int} {S : Nat → Prop}
theorem Pc.lt (h : Pc w o t A c l) {ad : Addr} (e : A = some ad) : ad.block < w.heap.size := (own_block h.1 ad.block (by rw [e]; rfl)).2
theorem Pc.mod (h : Pc w o t A c l) (hm : Mod S w w') (hS : ∀ k, k < w.heap.size → S k → o k ≠ t) (ho : ∀ k, k < w.heap.size → o' k = o k) : Pc w' o' t A c l :=
  ⟨own_mod h.1 hm (fun k hk hs => by
    obtain ⟨ad, e, rfl⟩ := block_iff hk
    exact hS _ (h.lt e) hs (h.2 ad e)), fun ad e => by rw [ho _ (h.lt e)]; exact h.2 ad e⟩
theorem Pc.below (h : Pc w o t A c l) (hb : Below w.heap.size w w') (ho : ∀ k, k < w.heap.size → o' k = o k) : Pc w' o' t A c l := h.mod (Mod.of_below (S := fun _ => False) hb) (fun _ _ h => h.elim) ho
theorem Pc.ints (h : Pc w o t A c l) (hl : l.length ≤ 17592186044416) : Ints w A l := Ints.of_own h.1 hl
theorem Pc.retag (h : Pc w o t A c l) (ht : t ≠ .other) (ho : ∀ k, o k ≠ .other → o' k = o k) : Pc w o' t A c l :=
  ⟨h.1, fun ad e => by
    have := h.2 ad e
    rw [ho _ (by rw [this]; exact ht)]
    exact this⟩
theorem Pc.some_ (h : Pc w o t A c l) (h0 : 0 < l.length) : ∃ g, A = some ⟨g, 0, none⟩ ∧ g < w.heap.size ∧ o g = t := by
  obtain ⟨g, rfl⟩ := own_some h.1 h0
  exact ⟨g, rfl, h.lt rfl, h.2 _ rfl⟩
theorem Pc.cell {g : Nat} (h : Pc w o t (some ⟨g, 0, none⟩) c l) (i : Nat) (hi : i < l.length) : w.cell? ⟨g, i, none⟩ = some (.int .i64 l[i]) := by
  have := own_cell h.1 i (by rw [enc_len ic_len]; omega)
  rw [this]
  congr 1
  simp [enc_ic]
theorem Pc.frozen {g : Nat} (h : Pc w o t (some ⟨g, 0, none⟩) c l) (i : Nat) : w.frozen? ⟨g, i, none⟩ = false := own_frozen h.1 i
theorem Pc.set {g : Nat} (h : Pc w o t (some ⟨g, 0, none⟩) c l) (i : Nat) (v : Int) : Pc (w.setCell ⟨g, i, none⟩ (.int .i64 v)) o t (some ⟨g, 0, none⟩) c (pu l i v) := by
  refine ⟨?_, h.2⟩
  rw [pu_len, ic_pu]
  exact own_set h.1 i _
end

/-! ### a row of nodes, a graph -/
structure NM (w : World) (o : Nat → Tag) (b : Bool) (D : Option Addr) (d : Nat) (xs : List Value) (ns : List Nd) : Prop where
  own : w.ownsRow 0 55 2 (.slice D ns.length d) ns.length xs
  tag : ∀ ad, D = some ad → o ad.block = .nodes b
  built : ∀ j, (h : j < ns.length) → ∃ A c B d, xs[j * 2]? = some (.slice A ns[j].slots.length c) ∧ xs[j * 2 + 1]? = some (.slice B ns[j].words.length d) ∧ Pc w o (.slots b j) A c ns[j].slots ∧ Pc w o (.words b j) B d ns[j].words
structure GM (w : World) (o : Nat → Tag) (b : Bool) (A : Option Addr) (c : Nat) (D : Option Addr) (d : Nat) (xs : List Value) (g : Gr) : Prop where
  roots : Pc w o (.roots b) A c g.roots
  nodes : NM w o b D d xs g.nodes
section
variable {w w' : World} {o o' : Nat → Tag} {b : Bool} {A D : Option Addr} {c d : Nat} {xs : List Value} {ns : List Nd} {g : Gr} {S : Nat → Prop}
theorem NM.lt (h : NM w o b D d xs ns) {ad : Addr} (e : D = some ad) : ad.block < w.heap.size := (own_block h.own ad.block (by rw [e]; rfl)).2
theorem NM.mod (h : NM w o b D d xs ns) (hm : Mod S w w') (hS : ∀ k, k < w.heap.size → S k → (o k).side ≠ some b) (ho : ∀ k, k < w.heap.size → o' k = o k) : NM w' o' b D d xs ns := by
  refine ⟨own_mod h.own hm (fun k hk hs => ?_), fun ad e => by rw [ho _ (h.lt e)]; exact h.tag ad e, fun j hj => ?_⟩
  · obtain ⟨ad, e, rfl⟩ := block_iff hk
    have := hS _ (h.lt e) hs
    rw [h.tag ad e] at this
    exact this rfl
  · obtain ⟨A', c', B', d', x1, x2, p1, p2⟩ := h.built j hj
    refine ⟨A', c', B', d', x1, x2, p1.mod hm (fun k hk hs e => ?_) ho, p2.mod hm (fun k hk hs e => ?_) ho⟩
    · have := hS k hk hs; rw [e] at this; exact this rfl
    · have := hS k hk hs; rw [e] at this; exact this rfl
theorem GM.mod (h : GM w o b A c D d xs g) (hm : Mod S w w') (hS : ∀ k, k < w.heap.size → S k → (o k).side ≠ some b) (ho : ∀ k, k < w.heap.size → o' k = o k) : GM w' o' b A c D d xs g :=
  ⟨h.roots.mod hm (fun k hk hs e => by have := hS k hk hs; rw [e] at this; exact this rfl) ho, h.nodes.mod hm hS ho⟩
theorem NM.retag (h : NM w o b D d xs ns) (ho : ∀ k, o k ≠ .other → o' k = o k) : NM w o' b D d xs ns := by
  refine ⟨h.own, fun ad e => ?_, fun j hj => ?_⟩
  · have := h.tag ad e
    rw [ho _ (by rw [this]; exact fun h => by cases h)]
    exact this
  · obtain ⟨A', c', B', d', x1, x2, p1, p2⟩ := h.built j hj
    exact ⟨A', c', B', d', x1, x2, p1.retag (fun h => by cases h) ho, p2.retag (fun h => by cases h) ho⟩
theorem GM.retag (h : GM w o b A c D d xs g) (ho : ∀ k, o k ≠ .other → o' k = o k) : GM w o' b A c D d xs g := ⟨h.roots.retag (fun h => by cases h) ho, h.nodes.retag ho⟩
/-- To be read. -/
theorem NM.reads (h : NM w o b D d xs ns) (hl : ns.length ≤ 17592186044416) (hx : ∀ x ∈ ns, x.slots.length ≤ 15 ∧ x.words.length ≤ 30) : Nodes w D ns := by
  refine ⟨hl, fun i hi => ?_⟩
  obtain ⟨A', c', B', d', x1, x2, i1, i2⟩ := h.built i hi
  have hx' := hx _ (List.getElem_mem hi)
  have hr := Reads.of_own h.own
  obtain ⟨ad, rfl, hc⟩ := hr.2 (by rw [hr.1]; omega)
  refine ⟨ad, rfl, A', c', B', d', hc _ _ x1, ?_, i1.ints (by omega), i2.ints (by omega)⟩
  have h2 := hc _ _ x2
  rw [← add_of_add] at h2
  exact h2
theorem sound_small {N : Nat} {g : Gr} (h : Sound N g) : ∀ x ∈ g.nodes, x.slots.length ≤ 15 ∧ x.words.length ≤ 30 := fun x hx => by
  have := ndOk_iff.1 (h.nodes x hx)
  exact ⟨this.1, this.2.1⟩
/-- The j-th node of a row. -/
theorem NM.at_ (h : NM w o b D d xs ns) (j : Nat) (hj : j < ns.length) : ∃ M A c B d', D = some ⟨M, 0, none⟩ ∧ M < w.heap.size ∧ o M = .nodes b ∧ w.cell? ⟨M, j * 2, none⟩ = some (.slice A ns[j].slots.length c) ∧ w.cell? ⟨M, j * 2 + 1, none⟩ = some (.slice B ns[j].words.length d') ∧
    Pc w o (.slots b j) A c ns[j].slots ∧ Pc w o (.words b j) B d' ns[j].words := by
  obtain ⟨M, rfl⟩ := own_some h.own (by omega)
  obtain ⟨A', c', B', d', x1, x2, i1, i2⟩ := h.built j hj
  have hc := (Reads.of_own h.own).2 (by rw [h.own.1]; omega)
  obtain ⟨ad, e, hc⟩ := hc
  injection e with e
  subst e
  have y1 := hc _ _ x1
  have y2 := hc _ _ x2
  rw [add_of_zero] at y1 y2
  exact ⟨M, A', c', B', d', rfl, h.lt rfl, h.tag _ rfl, y1, y2, i1, i2⟩
/-- A slot is written: all others stay. -/
theorem NM.slot {j G c' : Nat} (h : NM w o b D d xs ns) (hj : j < ns.length) (hx : xs[j * 2]? = some (.slice (some ⟨G, 0, none⟩) ns[j].slots.length c')) (i : Nat) (v : Int) :
    NM (w.setCell ⟨G, i, none⟩ (.int .i64 v)) o b D d xs (ns.set j ⟨pu ns[j].slots i v, ns[j].words⟩) := by
  obtain ⟨A0, c0, B0, d0, x1, x2, i1, i2⟩ := h.built j hj
  rw [hx] at x1
  injection x1 with x1
  injection x1 with x1 x1' x1''
  subst x1 x1''
  have hG : o G = .slots b j := i1.2 _ rfl
  have hm : Mod (fun k => k = G) w (w.setCell ⟨G, i, none⟩ (.int .i64 v)) := mod_set' (S := fun k => k = G) (Mod.refl _ _) rfl _
  have hlen : (ns.set j ⟨pu ns[j].slots i v, ns[j].words⟩).length = ns.length := List.length_set
  refine ⟨?_, h.tag, fun q hq => ?_⟩
  · rw [hlen]
    refine own_mod h.own hm (fun k hk hs => ?_)
    obtain ⟨ad, e, rfl⟩ := block_iff hk
    have := h.tag ad e
    rw [hs, hG] at this
    cases this
  · rw [hlen] at hq
    by_cases hqj : q = j
    · subst hqj
      simp only [List.getElem_set_self, pu_len]
      refine ⟨_, _, B0, d0, hx, x2, i1.set i v, i2.mod hm (fun k _ hs e => ?_) (fun _ _ => rfl)⟩
      subst hs
      rw [hG] at e
      cases e
    · rw [List.getElem_set_ne (Ne.symm hqj)]
      obtain ⟨A1, c1, B1, d1, y1, y2, k1, k2⟩ := h.built q hq
      refine ⟨A1, c1, B1, d1, y1, y2, k1.mod hm (fun k _ hs e => ?_) (fun _ _ => rfl), k2.mod hm (fun k _ hs e => ?_) (fun _ _ => rfl)⟩
      · subst hs
        rw [hG] at e
        injection e with _ e
        exact hqj e.symm
      · subst hs
        rw [hG] at e
        cases e
theorem NM.word {j G c' : Nat} (h : NM w o b D d xs ns) (hj : j < ns.length) (hx : xs[j * 2 + 1]? = some (.slice (some ⟨G, 0, none⟩) ns[j].words.length c')) (i : Nat) (v : Int) :
    NM (w.setCell ⟨G, i, none⟩ (.int .i64 v)) o b D d xs (ns.set j ⟨ns[j].slots, pu ns[j].words i v⟩) := by
  obtain ⟨A0, c0, B0, d0, x1, x2, i1, i2⟩ := h.built j hj
  rw [hx] at x2
  injection x2 with x2
  injection x2 with x2 x2' x2''
  subst x2 x2''
  have hG : o G = .words b j := i2.2 _ rfl
  have hm : Mod (fun k => k = G) w (w.setCell ⟨G, i, none⟩ (.int .i64 v)) := mod_set' (S := fun k => k = G) (Mod.refl _ _) rfl _
  have hlen : (ns.set j ⟨ns[j].slots, pu ns[j].words i v⟩).length = ns.length := List.length_set
  refine ⟨?_, h.tag, fun q hq => ?_⟩
  · rw [hlen]
    refine own_mod h.own hm (fun k hk hs => ?_)
    obtain ⟨ad, e, rfl⟩ := block_iff hk
    have := h.tag ad e
    rw [hs, hG] at this
    cases this
  · rw [hlen] at hq
    by_cases hqj : q = j
    · subst hqj
      simp only [List.getElem_set_self, pu_len]
      refine ⟨A0, c0, _, _, x1, hx, i1.mod hm (fun k _ hs e => ?_) (fun _ _ => rfl), i2.set i v⟩
      subst hs
      rw [hG] at e
      cases e
    · rw [List.getElem_set_ne (Ne.symm hqj)]
      obtain ⟨A1, c1, B1, d1, y1, y2, k1, k2⟩ := h.built q hq
      refine ⟨A1, c1, B1, d1, y1, y2, k1.mod hm (fun k _ hs e => ?_) (fun _ _ => rfl), k2.mod hm (fun k _ hs e => ?_) (fun _ _ => rfl)⟩
      · subst hs
        rw [hG] at e
        cases e
      · subst hs
        rw [hG] at e
        injection e with _ e
        exact hqj e.symm
/-- One more node: its lists lie in blocks with their tags, the row may have moved. -/
theorem NM.snoc {D' B' : Option Addr} {c' d' dd : Nat} {W4 : World} {o4 : Nat → Tag} (h : NM w o b D d xs ns) (x : Nd) (hg : w.grownBy W4 (Value.slice D ns.length d).ownBlock) (ho4 : ∀ k, k < w.heap.size → o4 k = o k)
    (hA : Pc w o (.slots b ns.length) A c' x.slots) (hB : Pc w o (.words b ns.length) B' d' x.words)
    (hown : W4.ownsRow 0 55 2 (.slice D' (ns.length + 1) dd) (ns.length + 1) (xs ++ [.slice A x.slots.length c', .slice B' x.words.length d'])) (ht : ∀ ad, D' = some ad → o4 ad.block = .nodes b) :
    NM W4 o4 b D' dd (xs ++ [.slice A x.slots.length c', .slice B' x.words.length d']) (ns ++ [x]) := by
  have hm : Mod (fun k => some k = (Value.slice D ns.length d).ownBlock) w W4 := Mod.of_grown hg
  have hne : ∀ t : Tag, t ≠ .nodes b → ∀ k, k < w.heap.size → some k = (Value.slice D ns.length d).ownBlock → o k ≠ t := fun t ht k _ hk e => by
    obtain ⟨ad, e1, rfl⟩ := block_iff hk.symm
    rw [h.tag ad e1] at e
    exact ht e.symm
  have hl : xs.length = ns.length * 2 := h.own.1
  have hlen : (ns ++ [x]).length = ns.length + 1 := by simp
  refine ⟨by rw [hlen]; exact hown, ht, fun j hj => ?_⟩
  rw [hlen] at hj
  by_cases hlt : j < ns.length
  · rw [List.getElem_append_left hlt]
    obtain ⟨A1, c1, B1, d1, y1, y2, k1, k2⟩ := h.built j hlt
    refine ⟨A1, c1, B1, d1, ?_, ?_, k1.mod hm (hne _ (fun h => by cases h)) ho4, k2.mod hm (hne _ (fun h => by cases h)) ho4⟩
    · rw [List.getElem?_append_left (by omega)]; exact y1
    · rw [List.getElem?_append_left (by omega)]; exact y2
  · have hje : j = ns.length := by omega
    subst hje
    rw [List.getElem_append_right (by omega)]
    simp only [Nat.sub_self, List.getElem_cons_zero]
    refine ⟨A, c', B', d', ?_, ?_, hA.mod hm (hne _ (fun h => by cases h)) ho4, hB.mod hm (hne _ (fun h => by cases h)) ho4⟩
    · rw [List.getElem?_append_right (by omega), show ns.length * 2 - xs.length = 0 by omega]; rfl
    · rw [List.getElem?_append_right (by omega), show ns.length * 2 + 1 - xs.length = 1 by omega]; rfl
theorem NM.nil (w : World) (o : Nat → Tag) (b : Bool) : NM w o b none 0 [] [] := ⟨own_nil _ _ _ _, (fun ad e => by cases e), fun j h => absurd h (by simp)⟩
end

/-! ### the heap: a pair of graphs -/
structure HMv (w : World) (o : Nat → Tag) (B hp : Nat) (A : Option Addr) (c : Nat) (D : Option Addr) (d : Nat) (xs : List Value) (A' : Option Addr) (c' : Nat) (D' : Option Addr) (d' : Nat) (xs' : List Value) (now last : Gr) : Prop where
  blk : Blk w hp 66 #[.slice A now.roots.length c, .slice D now.nodes.length d, .slice A' last.roots.length c', .slice D' last.nodes.length d']
  tag : o hp = .heap
  now : GM w o false A c D d xs now
  last : GM w o true A' c' D' d' xs' last
  lo : ∀ k, k < w.heap.size → o k ≠ .other → B ≤ k
  base : B ≤ w.heap.size
def HM (w : World) (o : Nat → Tag) (B hp : Nat) (now last : Gr) : Prop := ∃ A c D d xs A' c' D' d' xs', HMv w o B hp A c D d xs A' c' D' d' xs' now last
/-- What a method of the heap has turned: blocks of the heap; new blocks may be the heap's. -/
structure Turn (w w' : World) (o o' : Nat → Tag) : Prop where
  mod : Mod (fun k => o k ≠ .other) w w'
  ext : ∀ k, k < w.heap.size → o' k = o k
theorem Turn.refl (w : World) (o : Nat → Tag) : Turn w w o o := ⟨Mod.refl _ _, fun _ _ => rfl⟩
theorem Turn.trans {w w1 w2 : World} {o o1 o2 : Nat → Tag} (h : Turn w w1 o o1) (k : Turn w1 w2 o1 o2) : Turn w w2 o o2 :=
  ⟨Mod.trans h.mod k.mod (fun b hb e => by rw [h.ext b hb] at e; exact e), fun b hb => (k.ext b (Nat.lt_of_lt_of_le hb h.mod.size)).trans (h.ext b hb)⟩
theorem Turn.of_below {w w' : World} {o : Nat → Tag} (h : Below w.heap.size w w') : Turn w w' o o := ⟨Mod.of_below h, fun _ _ => rfl⟩
/-- Nothing of it has turned. -/
theorem HM.keep {w w' : World} {o o' : Nat → Tag} {B hp : Nat} {now last : Gr} {S : Nat → Prop} (h : HM w o B hp now last) (hm : Mod S w w') (hS : ∀ k, k < w.heap.size → S k → o k = .other) (ho : ∀ k, k < w.heap.size → o' k = o k) (hlo : ∀ k, w.heap.size ≤ k → k < w'.heap.size → o' k ≠ .other → B ≤ k) : HM w' o' B hp now last := by
  obtain ⟨A, c, D, d, xs, A', c', D', d', xs', h⟩ := h
  refine ⟨A, c, D, d, xs, A', c', D', d', xs', h.blk.mod hm (fun hs => ?_), by rw [ho _ h.blk.lt]; exact h.tag, h.now.mod hm (fun k hk hs => by rw [hS k hk hs]; exact fun h => by cases h) ho, h.last.mod hm (fun k hk hs => by rw [hS k hk hs]; exact fun h => by cases h) ho, fun k hk e => ?_, Nat.le_trans h.base hm.size⟩
  · have := hS _ h.blk.lt hs
    rw [h.tag] at this
    cases this
  · rcases Nat.lt_or_ge k w.heap.size with hlt | hge
    · rw [ho k hlt] at e; exact h.lo k hlt e
    · exact hlo k hge hk e
theorem HM.below {w w' : World} {o : Nat → Tag} {B hp : Nat} {now last : Gr} (h : HM w o B hp now last) (hb : Below w.heap.size w w') : HM w' o B hp now last := by
  have hB : B ≤ w.heap.size := by
    obtain ⟨A, c, D, d, xs, A', c', D', d', xs', h⟩ := h
    exact h.base
  exact h.keep (Mod.of_below (S := fun _ => False) hb) (fun _ _ h => h.elim) (fun _ _ => rfl) (fun k hk _ _ => Nat.le_trans hB hk)

end Go.Proofs.YteminkohgagedaaGreat.Mo
