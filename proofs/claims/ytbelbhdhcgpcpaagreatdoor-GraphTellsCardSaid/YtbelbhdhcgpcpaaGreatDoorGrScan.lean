/- Plain facts: in a numbered form each number is at most one beyond those that were met, all nodes are met, and it may be. -/
import Derived.Test.YtbelbhdhcgpcpaaGreatDoorGrSame
namespace Go.Proofs.YtbelbhdhcgpcpaaGreatDoor.Gr
open Go.RowKit Go.Proofs.YtbelbhdhcgpcpaaGreatDoor.Base
set_option linter.unusedVariables false
set_option linter.unusedSimpArgs false

/-- The most that was met. -/
def most (m : Int) (l : List Int) : Int := l.foldl max m
/-- Each number is at most one beyond. -/
def stepOk : Int → List Int → Prop
  | _, [] => True
  | m, a :: l => a ≤ m + 1 ∧ stepOk (max m a) l
def scanN : Nat → Int → List Nd → Prop
  | k, m, [] => m = k
  | k, m, x :: l => (k : Int) < m ∧ stepOk m x.slots ∧ scanN (k + 1) (most m x.slots) l
theorem most_cons (m a : Int) (l : List Int) : most m (a :: l) = most (max m a) l := rfl
theorem most_le (m : Int) (l : List Int) : m ≤ most m l := by
  induction l generalizing m with
  | nil => exact Int.le_refl _
  | cons a l ih => rw [most_cons]; exact Int.le_trans (Int.le_max_left _ _) (ih _)
theorem most_mem (m : Int) (l : List Int) : ∀ a ∈ l, a ≤ most m l := by
  induction l generalizing m with
  | nil => intro a h; cases h
  | cons b l ih =>
    intro a h
    rw [most_cons]
    rcases List.mem_cons.1 h with rfl | h
    · exact Int.le_trans (Int.le_max_right _ _) (most_le _ _)
    · exact ih _ a h
theorem scanN_le {k : Nat} {m : Int} {l : List Nd} (h : scanN k m l) : m ≤ k + l.length := by
  induction l generalizing k m with
  | nil => simp only [scanN] at h; simp [h]
  | cons x l ih =>
    have h1 := ih h.2.2
    have h2 := most_le m x.slots
    simp only [List.length_cons]
    omega
theorem scanN_all {k : Nat} {m : Int} {l : List Nd} (h : scanN k m l) : ∀ x ∈ l, ∀ a ∈ x.slots, a ≤ k + l.length := by
  induction l generalizing k m with
  | nil => intro x hx; cases hx
  | cons y l ih =>
    intro x hx a ha
    simp only [List.length_cons]
    rcases List.mem_cons.1 hx with rfl | hx
    · have h1 := scanN_le h.2.2
      have h2 := most_mem m x.slots a ha
      omega
    · have := ih h.2.2 x hx a ha
      omega

theorem meet1_step (o : List Int) (a : Int) : (meet1 o a).2 ≤ o.length + 1 ∧ max (o.length : Int) (meet1 o a).2 = (meet1 o a).1.length := by
  unfold meet1
  split
  · simp; omega
  · split
    · rename_i h0 hm
      have : o.findIdx (· == a) < o.length := List.findIdx_lt_length_of_exists ⟨a, hm, by simp⟩
      simp only [placeOf, hm, if_true]
      omega
    · simp only [List.length_append, List.length_singleton]
      omega
theorem meet_scan (o l : List Int) : stepOk o.length (meet o l).2 ∧ most o.length (meet o l).2 = (meet o l).1.length := by
  induction l generalizing o with
  | nil => exact ⟨trivial, rfl⟩
  | cons a l ih =>
    have h1 := meet1_step o a
    have h2 := ih (meet1 o a).1
    simp only [meet, stepOk, most_cons, h1.2]
    exact ⟨⟨h1.1, h2.1⟩, h2.2⟩

theorem canonGo_out (g : Gr) : ∀ (f i : Nat) (o : List Int) (out : List Nd), canonGo g f i o out = out ++ canonGo g f i o [] := by
  intro f
  induction f with
  | zero => intro i o out; simp [canonGo]
  | succ f ih =>
    intro i o out
    rw [canonGo, canonGo]
    split
    · rw [ih _ _ (out ++ _), ih _ _ ([] ++ _)]
      simp
    · simp
theorem canonGo_scan {g : Gr} (hg : right g = true) : ∀ (f i : Nat) (o : List Int), Ord o g.nodes.length → i ≤ o.length → g.nodes.length + 1 ≤ f + i → scanN i o.length (canonGo g f i o []) ∧ i + (canonGo g f i o []).length ≤ g.nodes.length := by
  intro f
  induction f with
  | zero => intro i o ho hi hf; have := ord_len ho; omega
  | succ f ih =>
    intro i o ho hi hf
    rw [canonGo]
    split
    · rename_i hlt
      have ha := ho.2 o[i] (List.getElem_mem hlt)
      have hx : ndOk (nodeAt g o[i]) g.nodes.length = true := by
        rw [nodeAt_eq g o[i] ha.1 ha.2]
        exact (right_parts hg).2.2.2 _ (List.getElem_mem _)
      have ho' := ord_meet ho (ndOk_parts hx).2.2.2
      have hg' := meet_grow o (nodeAt g o[i]).slots
      have h1 := ih (i + 1) _ ho' (by omega) (by omega)
      have h2 := meet_scan o (nodeAt g o[i]).slots
      rw [canonGo_out]
      simp only [List.nil_append, List.singleton_append, scanN, List.length_cons]
      refine ⟨⟨by omega, h2.1, ?_⟩, by omega⟩
      rw [h2.2]
      exact h1.1
    · have := ord_len ho
      simp only [scanN, List.length_nil]
      omega

theorem number_scan {g : Gr} (hg : right g = true) : stepOk 0 (number g).roots ∧ scanN 0 (most 0 (number g).roots) (number g).nodes ∧ (number g).nodes.length ≤ g.nodes.length := by
  obtain ⟨h1, h2, h3, h4⟩ := right_parts hg
  have k1 := meet_scan [] g.roots
  have k2 := canonGo_scan hg (g.nodes.length + 1) 0 (meet [] g.roots).1 (ord_meet (ord_nil _) h3) (Nat.zero_le _) (by omega)
  refine ⟨k1.1, ?_, by simpa [number] using k2.2⟩
  have e : most 0 (number g).roots = ((meet [] g.roots).1.length : Int) := k1.2
  rw [e]
  exact k2.1
theorem number_right {g : Gr} (hg : right g = true) : right (number g) = true := by
  obtain ⟨s1, s2, s3⟩ := number_scan hg
  obtain ⟨p1, p2, p3, p4⟩ := number_parts hg
  obtain ⟨h1, h2, h3, h4⟩ := right_parts hg
  have hle := scanN_le s2
  have hall := scanN_all s2
  simp only [right, Bool.and_eq_true, decide_eq_true_eq, List.all_eq_true]
  refine ⟨⟨⟨p1, by omega⟩, ?_⟩, ?_⟩
  · rw [named, List.all_eq_true]
    intro v hv
    have h5 := most_mem 0 _ v hv
    have h6 := p3 v hv
    simp only [Bool.and_eq_true, decide_eq_true_eq]
    omega
  · intro x hx
    obtain ⟨q1, q2, q3, q4⟩ := p4 x hx
    simp only [ndOk, Bool.and_eq_true, decide_eq_true_eq]
    refine ⟨⟨⟨q1, q2⟩, q3⟩, ?_⟩
    rw [named, List.all_eq_true]
    intro v hv
    have h5 := hall x hx v hv
    have h6 := q4 v hv
    simp only [Bool.and_eq_true, decide_eq_true_eq]
    omega
/-- What is right has small numbers. -/
theorem right_fits {g : Gr} (hg : right g = true) : g.roots.length = 8 ∧ g.nodes.length ≤ 1000 ∧ (∀ v ∈ g.roots, 0 ≤ v ∧ v ≤ 1000) ∧ ∀ x ∈ g.nodes, x.slots.length ≤ 15 ∧ x.words.length ≤ 30 ∧ (∀ v ∈ x.slots, 0 ≤ v ∧ v ≤ 1000) ∧ ∀ v ∈ x.words, 0 ≤ v ∧ v < 4294967296 := by
  obtain ⟨h1, h2, h3, h4⟩ := right_parts hg
  have key : ∀ l : List Int, named l g.nodes.length = true → ∀ v ∈ l, 0 ≤ v ∧ v ≤ 1000 := by
    intro l hl v hv
    rw [named, List.all_eq_true] at hl
    have := hl v hv
    simp only [Bool.and_eq_true, decide_eq_true_eq] at this
    omega
  refine ⟨h1, h2, key _ h3, fun x hx => ?_⟩
  obtain ⟨q1, q2, q3, q4⟩ := ndOk_parts (h4 x hx)
  refine ⟨q1, q2, key _ q4, fun v hv => ?_⟩
  rw [wordsOk, List.all_eq_true] at q3
  have := q3 v hv
  simpa using this

end Go.Proofs.YtbelbhdhcgpcpaaGreatDoor.Gr
