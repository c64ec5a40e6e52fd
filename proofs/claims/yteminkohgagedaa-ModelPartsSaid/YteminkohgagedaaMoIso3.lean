/- Plain: graphs that differ in their numbers alone have one numbered form; a graph and its numbered form differ so. -/
import Derived.Test.YteminkohgagedaaMoIso2
namespace Go.Proofs.Yteminkohgagedaa.Mo
open Go.RowKit Go.Proofs.Yteminkohgagedaa.Base Go.Proofs.Yteminkohgagedaa.Gr Go.Proofs.Yteminkohgagedaa.Ver
set_option linter.unusedVariables false
set_option linter.unusedSimpArgs false

theorem nd_nodeAt (g : Gr) {a : Int} (h : 1 ≤ a) : nd g a = nodeAt g a := by
  unfold nd nodeAt
  rw [show (a - 1).toNat = a.toNat - 1 by omega]
section
variable {P : Int → Int → Prop} {g h : Gr}
theorem Iso.mem (I : Iso P g h) : ∀ {o o' : List Int} {a b : Int}, Al P o o' → P a b → (a ∈ o ↔ b ∈ o') ∧ o.findIdx (· == a) = o'.findIdx (· == b)
  | [], [], a, b, _, hab => ⟨by simp, rfl⟩
  | x :: o, y :: o', a, b, hl, hab => by
    have hxy := I.eq hl.1 hab
    obtain ⟨m1, m2⟩ := Iso.mem I hl.2 hab
    constructor
    · simp only [List.mem_cons]
      rw [m1, show (a = x ↔ b = y) from ⟨fun e => (hxy.1 e.symm).symm, fun e => (hxy.2 e.symm).symm⟩]
    · rw [List.findIdx_cons, List.findIdx_cons, m2]
      have : (x == a) = (y == b) := by
        rw [Bool.eq_iff_iff]
        simp [hxy]
      rw [this]
  | [], y :: o', _, _, hl, _ => hl.elim
  | x :: o, [], _, _, hl, _ => hl.elim
theorem Iso.meet1 (I : Iso P g h) {o o' : List Int} {a b : Int} (hl : Al P o o') (hab : P a b) : (Gr.meet1 o a).2 = (Gr.meet1 o' b).2 ∧ Al P (Gr.meet1 o a).1 (Gr.meet1 o' b).1 := by
  obtain ⟨m1, m2⟩ := I.mem hl hab
  unfold Gr.meet1
  by_cases h0 : a = 0
  · rw [if_pos h0, if_pos ((I.nz hab).1 h0)]; exact ⟨rfl, hl⟩
  · rw [if_neg h0, if_neg (fun e => h0 ((I.nz hab).2 e))]
    by_cases hm : a ∈ o
    · rw [if_pos hm, if_pos (m1.1 hm)]
      refine ⟨?_, hl⟩
      unfold placeOf
      rw [if_pos hm, if_pos (m1.1 hm), m2]
    · rw [if_neg hm, if_neg (fun e => hm (m1.2 e))]
      exact ⟨by rw [hl.len], hl.snoc hab⟩
theorem Iso.meet (I : Iso P g h) : ∀ {l m o o' : List Int}, Al P o o' → Al P l m → (Gr.meet o l).2 = (Gr.meet o' m).2 ∧ Al P (Gr.meet o l).1 (Gr.meet o' m).1
  | [], [], o, o', hl, _ => ⟨rfl, hl⟩
  | a :: l, b :: m, o, o', hl, hs => by
    obtain ⟨e1, e2⟩ := I.meet1 hl hs.1
    obtain ⟨e3, e4⟩ := Iso.meet I e2 hs.2
    unfold Gr.meet
    exact ⟨by rw [e1, e3], e4⟩
  | [], b :: m, _, _, _, hs => hs.elim
  | a :: l, [], _, _, _, hs => hs.elim
theorem Al.atP : ∀ {l m : List Int}, Al P l m → ∀ i, (h1 : i < l.length) → (h2 : i < m.length) → P l[i] m[i]
  | a :: l, b :: m, h, 0, _, _ => h.1
  | a :: l, b :: m, h, i + 1, h1, h2 => Al.atP h.2 i (by simpa using h1) (by simpa using h2)
theorem Iso.canon (I : Iso P g h) (wg : wellG g) (wh : wellG h) : ∀ (f f' i : Nat) (o o' : List Int) (out : List Nd), Al P o o' → Ord o g.nodes.length → Ord o' h.nodes.length → g.nodes.length + 1 ≤ f + i → h.nodes.length + 1 ≤ f' + i →
    canonGo g f i o out = canonGo h f' i o' out := by
  intro f
  induction f with
  | zero =>
    intro f' i o o' out hl ho ho' hf hf'
    have h1 := ord_len ho
    have h2 := hl.len
    rw [canonGo_stop g 0 i o out (by omega), canonGo_stop h f' i o' out (by omega)]
  | succ f ih =>
    intro f' i o o' out hl ho ho' hf hf'
    have h2 := hl.len
    by_cases hlt : i < o.length
    · have hlt' : i < o'.length := by omega
      have h3 := ord_len ho'
      obtain ⟨f'', rfl⟩ : ∃ f'', f' = f'' + 1 := ⟨f' - 1, by omega⟩
      rw [canonGo_step g f i o out hlt, canonGo_step h f'' i o' out hlt']
      have hab := Al.atP hl i hlt hlt'
      have ra := ho.2 o[i] (List.getElem_mem hlt)
      have rb := ho'.2 o'[i] (List.getElem_mem hlt')
      have hs := I.slots hab (by omega)
      have hw := I.words hab (by omega)
      rw [nd_nodeAt g ra.1, nd_nodeAt h rb.1] at hs hw
      obtain ⟨e1, e2⟩ := I.meet hl hs
      rw [e1, hw]
      exact ih f'' (i + 1) _ _ _ e2 (ord_meet ho (ndOk_parts (nodeAt_ok wg ra.1 ra.2)).2.2.2) (ord_meet ho' (ndOk_parts (nodeAt_ok wh rb.1 rb.2)).2.2.2) (by omega) (by omega)
    · rw [canonGo_stop g _ i o out hlt, canonGo_stop h f' i o' out (by omega)]
/-- Their numbered forms are one. -/
theorem Iso.number (I : Iso P g h) (wg : wellG g) (wh : wellG h) : Gr.number g = Gr.number h := by
  obtain ⟨e1, e2⟩ := I.meet (o := []) (o' := []) trivial I.roots
  unfold Gr.number
  rw [e1, I.canon wg wh (g.nodes.length + 1) (h.nodes.length + 1) 0 _ _ [] e2 (ord_meet (ord_nil _) wg.1) (ord_meet (ord_nil _) wh.1) (by omega) (by omega)]
end

/-! ### a graph and its numbered form -/
theorem place_more {o : List Int} (t : List Int) {a : Int} (h : a ∈ o) : placeOf (o ++ t) a = placeOf o a := by
  unfold placeOf
  rw [if_pos h, if_pos (List.mem_append.2 (.inl h)), List.findIdx_append, if_pos (List.findIdx_lt_length_of_exists ⟨a, h, by simp⟩)]
theorem meet_place : ∀ (l o t : List Int), 0 ∉ (meet o l).1 ++ t → (∀ a ∈ o, a ≠ 0) → (meet o l).2 = l.map (placeOf ((meet o l).1 ++ t))
  | [], o, t, _, _ => rfl
  | a :: l, o, t, h0, ho => by
    have ho' : ∀ b ∈ (meet1 o a).1, b ≠ 0 := by
      intro b hb
      rcases (meet1_mem o a).2.2 b hb with h | ⟨h, hz⟩
      · exact ho b h
      · subst h; exact hz
    have ih := meet_place l (meet1 o a).1 t h0 ho'
    show (meet1 o a).2 :: (meet (meet1 o a).1 l).2 = placeOf ((meet (meet1 o a).1 l).1 ++ t) a :: l.map (placeOf ((meet (meet1 o a).1 l).1 ++ t))
    rw [ih]
    congr 1
    obtain ⟨s, hs⟩ := meet_pre (meet1 o a).1 l
    by_cases hz : a = 0
    · subst hz
      have e : placeOf ((meet (meet1 o 0).1 l).1 ++ t) 0 = 0 := placeOf_zero.2 h0
      rw [e]
      simp [meet1]
    · have hm : a ∈ (meet1 o a).1 := (meet1_mem o a).2.1 hz
      rw [hs, List.append_assoc, place_more _ hm]
      unfold meet1
      rw [if_neg hz]
      by_cases hin : a ∈ o
      · rw [if_pos hin]
      · rw [if_neg hin]
        show _ = placeOf (o ++ [a]) a
        rw [placeOf_snoc hin, if_pos rfl]
section
variable {g : Gr} (hg : wellG g)
include hg
theorem canon_nodes : ∀ (f i : Nat) (o : List Int), Ord o g.nodes.length → i ≤ o.length → g.nodes.length + 1 ≤ f + i →
    canonGo g f i o [] = ((ordGo g f i o).drop i).map fun b => (⟨(nodeAt g b).slots.map (placeOf (ordGo g f i o)), (nodeAt g b).words⟩ : Nd) := by
  intro f
  induction f with
  | zero => intro i o ho hi hf; have := ord_len ho; omega
  | succ f ih =>
    intro i o ho hi hf
    by_cases hlt : i < o.length
    · have ha := ho.2 o[i] (List.getElem_mem hlt)
      have hx := nodeAt_ok hg ha.1 ha.2
      have ho' := ord_meet ho (ndOk_parts hx).2.2.2
      have hgr := meet_grow o (nodeAt g o[i]).slots
      have q := ih (i + 1) _ ho' (by omega) (by omega)
      have hall := ordGo_all hg f (i + 1) _ ho' (by omega) (by omega)
      have e : ordGo g (f + 1) i o = ordGo g f (i + 1) (meet o (nodeAt g o[i]).slots).1 := by rw [ordGo, dif_pos hlt]
      obtain ⟨t, ht⟩ := ordGo_pre g f (i + 1) (meet o (nodeAt g o[i]).slots).1
      obtain ⟨s, hs⟩ := meet_pre o (nodeAt g o[i]).slots
      have hget : (ordGo g f (i + 1) (meet o (nodeAt g o[i]).slots).1).drop i = o[i] :: (ordGo g f (i + 1) (meet o (nodeAt g o[i]).slots).1).drop (i + 1) := by
        have hl : i < (ordGo g f (i + 1) (meet o (nodeAt g o[i]).slots).1).length := by rw [ht, hs]; simp; omega
        rw [List.drop_eq_getElem_cons hl]
        congr 1
        have e3 : (ordGo g f (i + 1) (meet o (nodeAt g o[i]).slots).1)[i]? = o[i]? := by
          rw [ht, hs, List.append_assoc, List.getElem?_append_left hlt]
        rw [List.getElem?_eq_getElem hl, List.getElem?_eq_getElem hlt] at e3
        exact Option.some.inj e3
      have hz : (0 : Int) ∉ ordGo g f (i + 1) (meet o (nodeAt g o[i]).slots).1 := fun h => by have := hall.1.2 0 h; omega
      have hm := meet_place (nodeAt g o[i]).slots o t (by rw [← ht]; exact hz) (fun a ha => by have := ho.2 a ha; omega)
      rw [← ht] at hm
      rw [e, hget, canonGo, dif_pos hlt, canonGo_split, q, List.map_cons, hm]
      rfl
    · have e : ordGo g (f + 1) i o = o := by rw [ordGo, dif_neg hlt]
      have e2 : canonGo g (f + 1) i o [] = [] := by rw [canonGo, dif_neg hlt]
      have hd : o.drop i = [] := List.drop_eq_nil_of_le (by omega)
      rw [e, e2, hd]
      rfl
/-- Which node of the numbered form a node is. -/
def Init (g : Gr) (a b : Int) : Prop := (a = 0 ∧ b = 0) ∨ (a ∈ ordF g ∧ b = placeOf (ordF g) a)
theorem init_iso : Iso (Init g) g (number g) := by
  obtain ⟨a1, a2, a3, a4, a5, a6⟩ := ordF_all hg
  have hz : (0 : Int) ∉ ordF g := fun h => by have := a1.2 0 h; omega
  have hnodes := canon_nodes hg (g.nodes.length + 1) 0 (meet [] g.roots).1 (ord_meet (ord_nil _) hg.1) (Nat.zero_le _) (by omega)
  rw [List.drop_zero] at hnodes
  have hidx : ∀ {a : Int}, a ∈ ordF g → (ordF g).findIdx (· == a) < (ordF g).length := fun {a} h => List.findIdx_lt_length_of_exists ⟨a, h, by simp⟩
  have hat : ∀ {a : Int} (h : a ∈ ordF g), (ordF g)[(ordF g).findIdx (· == a)]'(hidx h) = a := fun {a} h => by
    have := List.findIdx_getElem (p := (· == a)) (xs := ordF g) (w := hidx h)
    simpa using this
  have hpl : ∀ {a : Int}, a ∈ ordF g → placeOf (ordF g) a = ((ordF g).findIdx (· == a) : Int) + 1 := fun {a} h => by unfold placeOf; rw [if_pos h]
  have hnd : ∀ {a : Int}, a ∈ ordF g → nd (number g) (placeOf (ordF g) a) = ⟨(nodeAt g a).slots.map (placeOf (ordF g)), (nodeAt g a).words⟩ := fun {a} h => by
    rw [hpl h]
    have hl : (ordF g).findIdx (· == a) < (number g).nodes.length := by rw [a5]; exact hidx h
    rw [nd_nat hl]
    have e : (number g).nodes = (ordF g).map fun b => (⟨(nodeAt g b).slots.map (placeOf (ordF g)), (nodeAt g b).words⟩ : Nd) := hnodes
    simp only [e, List.getElem_map, hat h]
  have hin : ∀ {v : Int}, (v ≠ 0 → v ∈ ordF g) → Init g v (placeOf (ordF g) v) := fun {v} h => by
    by_cases h0 : v = 0
    · subst h0; exact .inl ⟨rfl, placeOf_zero.2 hz⟩
    · exact .inr ⟨h h0, rfl⟩
  refine ⟨.inl ⟨rfl, rfl⟩, ?_, ?_, ?_, ?_, ?_, ?_⟩
  · rintro a b c (⟨h1, h2⟩ | ⟨h1, h2⟩) (⟨h3, h4⟩ | ⟨h3, h4⟩)
    · omega
    · subst h1; exact absurd h3 hz
    · subst h3; exact absurd h1 hz
    · omega
  · rintro a b c (⟨h1, h2⟩ | ⟨h1, h2⟩) (⟨h3, h4⟩ | ⟨h3, h4⟩)
    · omega
    · rw [hpl h3] at h4; omega
    · rw [hpl h1] at h2; omega
    · rw [hpl h1] at h2
      rw [hpl h3] at h4
      have e : (ordF g).findIdx (· == a) = (ordF g).findIdx (· == b) := by omega
      have h5 := hat h1
      have h6 := hat h3
      simp only [e] at h5
      exact h5.symm.trans h6
  · rintro a b (⟨h1, h2⟩ | ⟨h1, h2⟩) h0
    · exact absurd h1 h0
    · have := a1.2 a h1
      have h3 := hidx h1
      rw [hpl h1] at h2
      rw [← a5] at h3
      omega
  · rintro a b (⟨h1, h2⟩ | ⟨h1, h2⟩) h0
    · exact absurd h1 h0
    · subst h2
      rw [hnd h1, nd_nodeAt g (a1.2 a h1).1]
      exact Al.map _ (fun v hv => hin (fun h => a3 a h1 v hv h))
  · rintro a b (⟨h1, h2⟩ | ⟨h1, h2⟩) h0
    · exact absurd h1 h0
    · subst h2
      rw [hnd h1, nd_nodeAt g (a1.2 a h1).1]
  · have hr : (number g).roots = g.roots.map (placeOf (ordF g)) := by
      obtain ⟨t, ht⟩ := ordGo_pre g (g.nodes.length + 1) 0 (meet [] g.roots).1
      have := meet_place g.roots [] t (by rw [← ht]; exact hz) (fun a h => by cases h)
      rw [← ht] at this
      exact this
    rw [hr]
    exact Al.map _ (fun v hv => hin (fun h => a2 v hv h))
end
end Go.Proofs.Yteminkohgagedaa.Mo
