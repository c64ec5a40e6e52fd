/- Plain facts for GraphGrows: a graph with one node more, which nothing names; which a root names. -/
import Derived.Test.YtbelbhdhcgpcpaaDoorGrGrown
import Derived.Test.YtbelbhdhcgpcpaaDoorGrRefCanonW
namespace Go.Proofs.YtbelbhdhcgpcpaaDoor.Gr
open Go.RowKit Go.Proofs.YtbelbhdhcgpcpaaDoor.Base Go.Proofs.YtbelbhdhcgpcpaaDoor.Str
set_option linter.unusedVariables false
set_option linter.unusedSimpArgs false

def newNd (s : Nat) (ws : List Int) : Nd := ⟨List.replicate s 0, ws.map wordI⟩
def oneMore (h : Gr) (y : Nd) : Gr := ⟨h.roots, h.nodes ++ [y]⟩
def atRoot (h : Gr) (y : Nd) (k : Nat) : Gr := ⟨h.roots.set k ((h.nodes.length : Int) + 1), h.nodes ++ [y]⟩
def lessRoot (h : Gr) (k : Nat) : Gr := ⟨h.roots.set k 0, h.nodes⟩
theorem newNd_ok {s : Nat} {ws : List Int} (hs : s ≤ 15) (hw : ws.length ≤ 30) (n : Nat) : ndOk (newNd s ws) (n : Int) = true := by
  refine ndOk_mk (by simpa [newNd] using hs) (by simpa [newNd] using hw) ?_ ?_
  · simp only [newNd, wordsOk, List.all_eq_true, List.mem_map, Bool.and_eq_true, decide_eq_true_eq]
    rintro v ⟨u, -, rfl⟩
    simp only [wordI]; omega
  · simp only [newNd, named, List.all_eq_true, Bool.and_eq_true, decide_eq_true_eq]
    intro v hv
    obtain rfl := (List.mem_replicate.1 hv).2
    omega
theorem named_more {l : List Int} {a b : Int} (h : named l a = true) (hab : a ≤ b) : named l b = true := by
  simp only [named, List.all_eq_true, Bool.and_eq_true, decide_eq_true_eq] at h ⊢
  intro v hv
  have := h v hv
  omega
theorem ndOk_more {x : Nd} {a b : Int} (h : ndOk x a = true) (hab : a ≤ b) : ndOk x b = true := by
  obtain ⟨h1, h2, h3, h4⟩ := ndOk_parts h
  exact ndOk_mk h1 h2 h3 (named_more h4 hab)
theorem right_mk {g : Gr} (h1 : g.roots.length = 8) (h2 : g.nodes.length ≤ 1000) (h3 : named g.roots g.nodes.length = true) (h4 : ∀ x ∈ g.nodes, ndOk x g.nodes.length = true) : right g = true := by
  simp only [right, Bool.and_eq_true, decide_eq_true_eq, List.all_eq_true]
  exact ⟨⟨⟨h1, h2⟩, h3⟩, h4⟩
section
variable {h : Gr} {y : Nd} {k : Nat} (hr : right h = true) (h60 : h.nodes.length ≤ 60) (hy : ndOk y 0 = true)
include hr h60 hy
theorem nodes_more (rs : List Int) (h1 : rs.length = 8) (h3 : named rs ((h.nodes.length : Int) + 1) = true) : right ⟨rs, h.nodes ++ [y]⟩ = true := by
  obtain ⟨p1, p2, p3, p4⟩ := right_parts hr
  have hl : ((h.nodes ++ [y]).length : Int) = (h.nodes.length : Int) + 1 := by simp
  refine right_mk h1 (by simp; omega) (by show named rs ((h.nodes ++ [y]).length : Int) = true; rw [hl]; exact h3) (fun x hx => ?_)
  show ndOk x ((h.nodes ++ [y]).length : Int) = true
  rw [hl]
  rcases List.mem_append.1 hx with h | h
  · exact ndOk_more (p4 x h) (by omega)
  · rw [List.mem_singleton.1 h]; exact ndOk_more hy (by omega)
theorem oneMore_right : right (oneMore h y) = true := by
  obtain ⟨p1, p2, p3, p4⟩ := right_parts hr
  exact nodes_more hr h60 hy h.roots p1 (named_more p3 (by omega))
omit h60 hy in
theorem oneMore_number : number (oneMore h y) = number h := by
  refine number_turn (f := fun a => a) hr rfl (fun a h1 _ => by show a ≠ 0; omega) (fun a b _ _ _ _ e => e) (by simp [oneMore]) (by simp [oneMore]) (fun a h1 h2 => ?_)
  rw [nodeAt_eq h a h1 h2, nodeAt_eq (oneMore h y) a h1 (by simp [oneMore]; omega)]
  simp only [oneMore, List.map_id']
  rw [List.getElem_append_left]
theorem oneMore_size : size (oneMore h y) = size h ∧ same h (oneMore h y) = true := by
  have h1 := oneMore_right hr h60 hy
  have h2 : canon (oneMore h y) = canon h := by simp only [canon, h1, hr, if_true]; exact oneMore_number hr
  exact ⟨by simp only [size, h1, hr, if_true, h2], by simp [same, h1, hr, h2]⟩
theorem atRoot_right : right (atRoot h y k) = true := by
  obtain ⟨p1, p2, p3, p4⟩ := right_parts hr
  refine nodes_more hr h60 hy _ (by rw [List.length_set]; exact p1) ?_
  simp only [named, List.all_eq_true, Bool.and_eq_true, decide_eq_true_eq] at p3 ⊢
  intro v hv
  rcases List.mem_or_eq_of_mem_set hv with h | h
  · have := p3 v h; omega
  · omega
omit hy h60 in
theorem lessRoot_right : right (lessRoot h k) = true := by
  obtain ⟨p1, p2, p3, p4⟩ := right_parts hr
  refine right_mk (by simpa [lessRoot] using p1) p2 ?_ p4
  show named (h.roots.set k 0) (h.nodes.length : Int) = true
  simp only [named, List.all_eq_true, Bool.and_eq_true, decide_eq_true_eq] at p3 ⊢
  intro v hv
  rcases List.mem_or_eq_of_mem_set hv with h | h
  · exact p3 v h
  · omega
omit hr h60 hy in
theorem set_mem {l : List Int} {k : Nat} {a v : Int} (hk : k < l.length) : a ∈ l.set k v ↔ a = v ∨ ∃ j, j ≠ k ∧ l[j]? = some a := by
  rw [List.mem_iff_getElem?]
  constructor
  · rintro ⟨j, hj⟩
    rw [List.getElem?_set] at hj
    by_cases e : k = j
    · subst e; rw [if_pos rfl, if_pos hk] at hj; injection hj with hj; exact .inl hj.symm
    · rw [if_neg e] at hj; exact .inr ⟨j, fun h => e h.symm, hj⟩
  · rintro (e | ⟨j, hj, h⟩)
    · exact ⟨k, by rw [List.getElem?_set, if_pos rfl, if_pos hk, e]⟩
    · exact ⟨j, by rw [List.getElem?_set, if_neg (fun e => hj e.symm)]; exact h⟩
theorem grows_sizes (hk : k < 8) (hys : ∀ a ∈ y.slots, a = 0) : size (atRoot h y k) = size (lessRoot h k) + 1 + y.slots.length + y.words.length ∧ (canon (atRoot h y k)).nodes.length = (number (lessRoot h k)).nodes.length + 1 := by
  have h1 := atRoot_right (k := k) hr h60 hy
  have h2 := lessRoot_right (k := k) hr
  have hk8 : k < h.roots.length := by rw [(right_parts hr).1]; exact hk
  have := grow_size h2 h1 y hys rfl (fun a ha => by
    show a ∈ h.roots.set k ((h.nodes.length : Int) + 1) ↔ a ∈ h.roots.set k 0 ∨ a = (h.nodes.length : Int) + 1
    rw [set_mem hk8, set_mem hk8]
    constructor
    · rintro (e | e)
      · exact .inr e
      · exact .inl (.inr e)
    · rintro ((e | e) | e)
      · exact absurd e ha
      · exact .inr e
      · exact .inl e)
  simp only [size, canon, h1, h2, if_true]
  refine ⟨?_, this.2⟩
  rw [this.1]
  simp only [ndSize]
  omega
end

theorem cells_bound : ∀ (l : List Nd), (∀ x ∈ l, ndSize x ≤ 46) → cells l ≤ 46 * l.length
  | [], _ => by simp [cells]
  | x :: l, h => by
    have h1 := cells_bound l (fun y hy => h y (List.mem_cons_of_mem _ hy))
    have h2 := h x List.mem_cons_self
    simp only [cells, ndSize, List.map_cons, List.sum_cons, List.length_cons] at *
    omega
theorem size_bound {g : Gr} (hr : right g = true) : size g ≤ 1000000 := by
  have h := right_parts (number_right hr)
  simp only [size, canon, hr, if_true]
  have := cells_bound (number g).nodes (fun x hx => by
    have := ndOk_parts (h.2.2.2 x hx)
    simp only [ndSize]
    omega)
  have := h.2.1
  omega
theorem two_refcanon {w W' : World} {p q : Nat} {A B C D : Option Addr} {a b c d : Nat} {g h : Gr} (hh : h.roots.length = 8 ∧ h.nodes.length ≤ 1000 ∧ named h.roots h.nodes.length = true ∧ ∀ x ∈ h.nodes, ndOk x h.nodes.length = true) (H : Two w W' p q A B C D a b c d g h) :
    Calls Tryd.prog 19 #[.agg #[.slice C h.roots.length c, .slice D h.nodes.length d], .slice none 0 0] W' fun e w' => ∃ X1 x1 Y1 y1, e = .returned (.agg #[.slice X1 (number h).roots.length x1, .slice Y1 (number h).nodes.length y1]) ∧
      CellsTwo w' p q A B C D a b c d g h ∧ Two w w' p q A B C D a b c d g h := by
  refine (refcanon_any C D h c d W' H.h1 H.h2 hh.2.2.1 (by omega) (by omega) hh.2.2.2).mono ?_
  rintro e w' ⟨A1, c1, D1, d1, rfl, h1, h2, hb⟩
  exact ⟨A1, c1, D1, d1, rfl, (H.below hb).cells, H.below hb⟩

end Go.Proofs.YtbelbhdhcgpcpaaDoor.Gr
