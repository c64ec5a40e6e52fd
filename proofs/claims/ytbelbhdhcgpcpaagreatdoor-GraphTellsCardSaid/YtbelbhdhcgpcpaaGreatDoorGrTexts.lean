/- Plain facts: two graphs that may be have the same text just if they are the same. -/
import Derived.Test.YtbelbhdhcgpcpaaGreatDoorGrText
import Derived.Test.YtbelbhdhcgpcpaaGreatDoorGrScan
import Derived.Test.YtbelbhdhcgpcpaaGreatDoorItoaPlain
namespace Go.Proofs.YtbelbhdhcgpcpaaGreatDoor.Gr
open Go.RowKit Go.Proofs.YtbelbhdhcgpcpaaGreatDoor.Base Go.Proofs.YtbelbhdhcgpcpaaGreatDoor.Str
set_option linter.unusedVariables false
set_option linter.unusedSimpArgs false

/-- What stands ahead of the first sign that is none of p. -/
theorem run_inj {p : UInt8 → Bool} : ∀ {a b r t : List UInt8}, (∀ c ∈ a, p c = true) → (∀ c ∈ b, p c = true) → (∀ c, r.head? = some c → p c = false) → (∀ c, t.head? = some c → p c = false) → a ++ r = b ++ t → a = b ∧ r = t
  | [], [], r, t, _, _, _, _, h => by simpa using h
  | [], x :: b, r, t, _, hb, hr, _, h => by
    have h1 := hb x List.mem_cons_self
    have h2 := hr x (by rw [List.nil_append] at h; rw [h]; rfl)
    rw [h1] at h2; cases h2
  | x :: a, [], r, t, ha, _, _, ht, h => by
    have h1 := ha x List.mem_cons_self
    have h2 := ht x (by rw [List.nil_append] at h; rw [← h]; rfl)
    rw [h1] at h2; cases h2
  | x :: a, y :: b, r, t, ha, hb, hr, ht, h => by
    simp only [List.cons_append, List.cons.injEq] at h
    obtain ⟨e1, e2⟩ := run_inj (fun c hc => ha c (List.mem_cons_of_mem _ hc)) (fun c hc => hb c (List.mem_cons_of_mem _ hc)) hr ht h.2
    exact ⟨by rw [h.1, e1], e2⟩
def isNum (c : UInt8) : Bool := c == 45 || (decide (48 ≤ c.toNat) && decide (c.toNat ≤ 57))
def isNums (c : UInt8) : Bool := c == 32 || isNum c
theorem itoa_num (v : Int) : ∀ c ∈ Lib.itoa v, isNum c = true := by
  intro c hc
  rcases itoa_sign v c hc with rfl | h
  · rfl
  · simp [isNum, h.1, h.2]
theorem nums_num (l : List Int) : ∀ c ∈ numsText l, isNums c = true := by
  intro c hc
  simp only [numsText, List.mem_flatMap, List.mem_cons] at hc
  obtain ⟨v, _, rfl | h⟩ := hc
  · rfl
  · simp [isNums, itoa_num v c h]
theorem nums_head (l : List Int) (r : List UInt8) (hr : ∀ c, r.head? = some c → isNum c = false) : ∀ c, (numsText l ++ r).head? = some c → isNum c = false := by
  intro c hc
  cases l with
  | nil => exact hr c (by simpa [numsText] using hc)
  | cons v l =>
    simp only [numsText, List.flatMap_cons, List.cons_append, List.head?_cons, Option.some.injEq] at hc
    subst hc
    rfl
theorem nums_inj : ∀ {l m : List Int}, numsText l = numsText m → l = m
  | [], [], _ => rfl
  | [], v :: m, h => by simp [numsText] at h
  | v :: l, [], h => by simp [numsText] at h
  | v :: l, u :: m, h => by
    have h' : Lib.itoa v ++ numsText l = Lib.itoa u ++ numsText m := by
      simpa [numsText] using h
    obtain ⟨e1, e2⟩ := run_inj (itoa_num v) (itoa_num u) (fun c hc => by have := nums_head l [] (by simp) c (by simpa using hc); exact this) (fun c hc => by have := nums_head m [] (by simp) c (by simpa using hc); exact this) h'
    rw [itoa_inj e1, nums_inj e2]
theorem nodes_head (l : List Nd) : ∀ c, (l.flatMap ndText).head? = some c → isNums c = false := by
  intro c hc
  cases l with
  | nil => simp at hc
  | cons x l =>
    simp only [ndText, List.flatMap_cons, List.cons_append, List.head?_cons, Option.some.injEq] at hc
    subst hc
    rfl
theorem nodes_inj : ∀ {l m : List Nd}, l.flatMap ndText = m.flatMap ndText → l = m
  | [], [], _ => rfl
  | [], x :: m, h => by simp [ndText] at h
  | x :: l, [], h => by simp [ndText] at h
  | x :: l, y :: m, h => by
    have h1 : numsText x.slots ++ (124 :: (numsText x.words ++ l.flatMap ndText)) = numsText y.slots ++ (124 :: (numsText y.words ++ m.flatMap ndText)) := by
      simpa [ndText] using h
    obtain ⟨e1, e2⟩ := run_inj (nums_num _) (nums_num _) (fun c hc => by simp at hc; subst hc; rfl) (fun c hc => by simp at hc; subst hc; rfl) h1
    injection e2 with _ e2
    obtain ⟨e3, e4⟩ := run_inj (nums_num _) (nums_num _) (nodes_head l) (nodes_head m) e2
    have e5 := nums_inj e1
    have e6 := nums_inj e3
    have : x = y := by cases x; cases y; simp_all
    rw [this, nodes_inj e4]
theorem text_inj {g h : Gr} (e : grText g = grText h) : g = h := by
  have h1 : numsText g.roots ++ g.nodes.flatMap ndText = numsText h.roots ++ h.nodes.flatMap ndText := by
    simpa [grText] using e
  obtain ⟨e1, e2⟩ := run_inj (nums_num _) (nums_num _) (nodes_head _) (nodes_head _) h1
  have e3 := nums_inj e1
  have e4 := nodes_inj e2
  cases g; cases h; simp_all
theorem text_eq (g h : Gr) : (grText g == grText h) = decide (g = h) := by
  by_cases e : g = h
  · subst e; simp
  · rw [decide_eq_false e]
    simp only [beq_eq_false_iff_ne, ne_eq]
    exact fun h' => e (text_inj h')

end Go.Proofs.YtbelbhdhcgpcpaaGreatDoor.Gr
