/- Plain facts: a graph whose nodes are numbered otherwise has the same numbered form. -/
import Derived.Test.YtbelbhdhcgpcpaaDoorGrScan
namespace Go.Proofs.YtbelbhdhcgpcpaaDoor.Gr
open Go.RowKit Go.Proofs.YtbelbhdhcgpcpaaDoor.Base
set_option linter.unusedVariables false
set_option linter.unusedSimpArgs false

theorem findIdx_same {α : Type} {p q : α → Bool} : ∀ {l : List α}, (∀ b ∈ l, p b = q b) → l.findIdx p = l.findIdx q
  | [], _ => rfl
  | a :: l, h => by
    rw [List.findIdx_cons, List.findIdx_cons, h a List.mem_cons_self, findIdx_same (fun b hb => h b (List.mem_cons_of_mem _ hb))]
theorem findIdx_mapped {α β : Type} {p : β → Bool} {f : α → β} : ∀ {l : List α}, (l.map f).findIdx p = l.findIdx (fun a => p (f a))
  | [] => rfl
  | a :: l => by rw [List.map_cons, List.findIdx_cons, List.findIdx_cons, findIdx_mapped]

section
variable {n : Nat} {f : Int → Int} (h0 : f 0 = 0) (hne : ∀ a : Int, 1 ≤ a → a ≤ n → f a ≠ 0) (hinj : ∀ a b : Int, 1 ≤ a → a ≤ n → 1 ≤ b → b ≤ n → f a = f b → a = b)
include h0 hne hinj
theorem meet1_map (o : List Int) (ho : ∀ a ∈ o, 1 ≤ a ∧ a ≤ n) (a : Int) (ha0 : 0 ≤ a) (ha1 : a ≤ n) : meet1 (o.map f) (f a) = ((meet1 o a).1.map f, (meet1 o a).2) := by
  by_cases h : a = 0
  · subst h
    simp [meet1, h0]
  · have hfa : f a ≠ 0 := hne a (by omega) ha1
    by_cases hm : a ∈ o
    · have hm' : f a ∈ o.map f := List.mem_map_of_mem hm
      have hp : placeOf (o.map f) (f a) = placeOf o a := by
        unfold placeOf
        rw [if_pos hm, if_pos hm', findIdx_mapped]
        rw [findIdx_same (q := (· == a)) (fun b hb => by
          show (f b == f a) = (b == a)
          by_cases e : b = a
          · rw [e, beq_self_eq_true, beq_self_eq_true]
          · have h2 : f b ≠ f a := fun e' => e (hinj b a (ho b hb).1 (ho b hb).2 (by omega) ha1 e')
            rw [beq_eq_false_iff_ne.mpr e, beq_eq_false_iff_ne.mpr h2])]
      simp only [meet1, hfa, hm', h, hm, if_true, if_false, hp]
    · have hm' : f a ∉ o.map f := by
        intro hm'
        obtain ⟨b, hb, e⟩ := List.mem_map.1 hm'
        have := hinj b a (ho b hb).1 (ho b hb).2 (by omega) ha1 e
        subst this
        exact hm hb
      simp only [meet1, hfa, hm', h, hm, if_false, List.map_append, List.map_cons, List.map_nil, List.length_map]
theorem meet_map (o l : List Int) (ho : Ord o n) (hl : named l n = true) : meet (o.map f) (l.map f) = ((meet o l).1.map f, (meet o l).2) := by
  induction l generalizing o with
  | nil => rfl
  | cons a l ih =>
    rw [named_cons] at hl
    have h1 := meet1_map h0 hne hinj o ho.2 a hl.1.1 hl.1.2
    simp only [List.map_cons, meet, h1]
    rw [ih _ (ord_meet1 ho hl.1.1 hl.1.2) hl.2]
theorem canonGo_map {g x : Gr} (hg : right g = true) (hn : n = g.nodes.length) (hx : ∀ a : Int, 1 ≤ a → a ≤ n → nodeAt x (f a) = ⟨(nodeAt g a).slots.map f, (nodeAt g a).words⟩) :
    ∀ (k i : Nat) (o : List Int) (out : List Nd), Ord o n → canonGo x k i (o.map f) out = canonGo g k i o out := by
  intro k
  induction k with
  | zero => intro i o out _; rfl
  | succ k ih =>
    intro i o out ho
    rw [canonGo, canonGo]
    by_cases hi : i < o.length
    · have hi' : i < (o.map f).length := by rw [List.length_map]; exact hi
      rw [dif_pos hi, dif_pos hi']
      have ha := ho.2 o[i] (List.getElem_mem hi)
      have hnd : ndOk (nodeAt g o[i]) n = true := by
        subst hn
        rw [nodeAt_eq g o[i] ha.1 ha.2]
        exact (right_parts hg).2.2.2 _ (List.getElem_mem _)
      have hns := (ndOk_parts hnd).2.2.2
      rw [List.getElem_map, hx o[i] ha.1 ha.2]
      simp only [meet_map h0 hne hinj o (nodeAt g o[i]).slots ho hns]
      exact ih _ _ _ (ord_meet ho hns)
    · have hi' : ¬ i < (o.map f).length := by rw [List.length_map]; exact hi
      rw [dif_neg hi, dif_neg hi']
end
theorem canonGo_fuel {g : Gr} (hg : right g = true) : ∀ (k k' i : Nat) (o : List Int) (out : List Nd), Ord o g.nodes.length → i ≤ o.length → g.nodes.length + 1 ≤ k + i → k ≤ k' → canonGo g k' i o out = canonGo g k i o out := by
  intro k
  induction k with
  | zero => intro k' i o out ho hi hf _; have := ord_len ho; omega
  | succ k ih =>
    intro k' i o out ho hi hf hk
    obtain ⟨q, rfl⟩ : ∃ q, k' = q + 1 := ⟨k' - 1, by omega⟩
    rw [canonGo, canonGo]
    by_cases hlt : i < o.length
    · rw [dif_pos hlt, dif_pos hlt]
      have ha := ho.2 o[i] (List.getElem_mem hlt)
      have hnd : ndOk (nodeAt g o[i]) g.nodes.length = true := by
        rw [nodeAt_eq g o[i] ha.1 ha.2]
        exact (right_parts hg).2.2.2 _ (List.getElem_mem _)
      have := meet_grow o (nodeAt g o[i]).slots
      exact ih q _ _ _ (ord_meet ho (ndOk_parts hnd).2.2.2) (by omega) (by omega) (by omega)
    · rw [dif_neg hlt, dif_neg hlt]
/-- The same numbered form. -/
theorem number_turn {g x : Gr} {f : Int → Int} (hg : right g = true) (h0 : f 0 = 0) (hne : ∀ a : Int, 1 ≤ a → a ≤ g.nodes.length → f a ≠ 0)
    (hinj : ∀ a b : Int, 1 ≤ a → a ≤ g.nodes.length → 1 ≤ b → b ≤ g.nodes.length → f a = f b → a = b) (hr : x.roots = g.roots.map f) (hle : g.nodes.length ≤ x.nodes.length)
    (hx : ∀ a : Int, 1 ≤ a → a ≤ g.nodes.length → nodeAt x (f a) = ⟨(nodeAt g a).slots.map f, (nodeAt g a).words⟩) : number x = number g := by
  obtain ⟨p1, p2, p3, p4⟩ := right_parts hg
  have h1 := meet_map h0 hne hinj [] g.roots (ord_nil _) p3
  rw [List.map_nil] at h1
  unfold number
  rw [hr, h1]
  congr 1
  rw [canonGo_map h0 hne hinj hg rfl hx _ _ _ _ (ord_meet (ord_nil _) p3)]
  exact canonGo_fuel hg _ _ _ _ _ (ord_meet (ord_nil _) p3) (Nat.zero_le _) (by omega) (by omega)

end Go.Proofs.YtbelbhdhcgpcpaaDoor.Gr
