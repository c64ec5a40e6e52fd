/- Lists of lists that are kept: where they lie, which are written, which stay. Nothing here names the program. -/
import Derived.Test.YtbelbhdhcgpcpaaGreatDoorBkBase
namespace Go.Proofs.YtbelbhdhcgpcpaaGreatDoor.Bk
open Go.RowKit Go.Proofs.YtbelbhdhcgpcpaaGreatDoor.Base
set_option linter.unusedVariables false
set_option linter.unusedSimpArgs false

/-- One of the blocks of these lists. -/
def InVs (vs : List Value) (b : Nat) : Prop := ∃ v ∈ vs, v.ownBlock = some b
theorem InVs.of_get {vs : List Value} {i b : Nat} {v : Value} (h : vs[i]? = some v) (hb : v.ownBlock = some b) : InVs vs b := ⟨v, List.mem_of_getElem? h, hb⟩

section
variable {α : Type} {f : α → List Value} {e st s : Nat}
/-- Lists vs, each a row of its own in a block of its own, that hold what c says; vK is the row of them all. -/
structure Kd (w : World) (f : α → List Value) (e st s : Nat) (vK : Value) (vs : List Value) (c : Nat → List α) : Prop where
  row : w.ownsRow 0 st 1 vK vs.length vs
  own : ∀ (i : Nat) (v : Value), vs[i]? = some v → w.ownsRow 0 e s v (c i).length (enc f (c i))
  apart : ∀ (i j : Nat) (u v : Value), i < j → vs[i]? = some u → vs[j]? = some v → ∀ b, u.ownBlock = some b → v.ownBlock ≠ some b
/-- .. that read so. -/
structure Rd (w : World) (f : α → List Value) (st s : Nat) (vK : Value) (vs : List Value) (c : Nat → List α) : Prop where
  row : w.ownsRow 0 st 1 vK vs.length vs
  reads : ∀ (i : Nat) (v : Value), vs[i]? = some v → ∃ A k, v = .slice A (c i).length k ∧ Arr w f s A (c i)
section
variable {w w' : World} {vK : Value} {vs : List Value} {c d : Nat → List α} {S : Nat → Prop}
theorem Kd.nil (hs : 0 < s) : Kd w f e st s (.slice none 0 0) [] c := ⟨own_nil _ _ _ _, fun i v h => by simp at h, fun i j u v _ h => by simp at h⟩
theorem Kd.block (h : Kd w f e st s vK vs c) : ∀ b, InVs vs b → b < w.heap.size := by
  rintro b ⟨v, hv, hb⟩
  obtain ⟨i, hi⟩ := List.mem_iff_getElem?.1 hv
  exact (own_block (h.own i v hi) b hb).2
theorem Kd.rowBlock (h : Kd w f e st s vK vs c) : ∀ b, vK.ownBlock = some b → b < w.heap.size := fun b hb => (own_block h.row b hb).2
/-- The row of them all is none of them. -/
theorem Kd.rowApart (h : Kd w f e st s vK vs c) (hne : e ≠ st) : ∀ b, vK.ownBlock = some b → ¬ InVs vs b := by
  rintro b hb ⟨v, hv, hvb⟩
  obtain ⟨i, hi⟩ := List.mem_iff_getElem?.1 hv
  exact own_type (h.own i v hi) h.row hne b hvb hb
theorem Kd.mod (h : Kd w f e st s vK vs c) (hm : Mod S w w') (h1 : ∀ b, vK.ownBlock = some b → ¬ S b) (h2 : ∀ b, InVs vs b → ¬ S b) : Kd w' f e st s vK vs c :=
  ⟨own_mod h.row hm h1, fun i v hi => own_mod (h.own i v hi) hm (fun k hk => h2 k (InVs.of_get hi hk)), h.apart⟩
theorem Kd.below (h : Kd w f e st s vK vs c) (hb : Below w.heap.size w w') : Kd w' f e st s vK vs c := h.mod (S := fun _ => False) (Mod.of_below hb) (fun _ _ h => h) (fun _ _ h => h)
theorem Kd.congr (h : Kd w f e st s vK vs c) (hc : ∀ i, i < vs.length → c i = d i) : Kd w f e st s vK vs d :=
  ⟨h.row, fun i v hi => by
    have hlt : i < vs.length := by
      rcases Nat.lt_or_ge i vs.length with h | h
      · exact h
      · rw [List.getElem?_eq_none h] at hi; cases hi
    rw [← hc i hlt]; exact h.own i v hi, h.apart⟩
/-- One of them is turned. -/
theorem Kd.turn (h : Kd w f e st s vK vs c) (hne : e ≠ st) {i : Nat} {v : Value} {l : List α} (hi : vs[i]? = some v) (hm : Mod (fun b => v.ownBlock = some b) w w') (ho : w'.ownsRow 0 e s v l.length (enc f l)) :
    Kd w' f e st s vK vs (fun q => if q = i then l else c q) := by
  refine ⟨own_mod h.row hm (fun k hk hS => h.rowApart hne k hk (InVs.of_get hi hS)), fun q u hq => ?_, h.apart⟩
  by_cases e' : q = i
  · subst e'
    simp only [if_true]
    rw [hi] at hq
    injection hq with hq
    subst hq
    exact ho
  · simp only [if_neg e']
    refine own_mod (h.own q u hq) hm (fun k hk hS => ?_)
    rcases Nat.lt_or_ge q i with hlt | hge
    · exact h.apart q i u v hlt hq hi k hk hS
    · exact h.apart i q v u (by omega) hi hq k hS hk
theorem Kd.rd (h : Kd w f e st s vK vs c) : Rd w f st s vK vs c := ⟨h.row, fun i v hi => by
  obtain ⟨A, k, rfl, _⟩ := own_form (h.own i v hi)
  exact ⟨A, k, rfl, (own_reads (h.own i _ hi)).2⟩⟩
theorem Rd.below (h : Rd w f st s vK vs c) (hb : Below w.heap.size w w') : Rd w' f st s vK vs c := ⟨own_below h.row hb, fun i v hi => by
  obtain ⟨A, k, e, hr⟩ := h.reads i v hi
  exact ⟨A, k, e, hr.below hb⟩⟩
/-- The i-th one, as a walk meets it. -/
theorem Rd.at_ (h : Rd w f st s vK vs c) {i m : Nat} {A : Option Addr} {k : Nat} (hv : vK = .slice A m k) (hi : i < m) : ∃ g B q, A = some ⟨g, 0, none⟩ ∧ w.cell? ⟨g, i, none⟩ = some (.slice B (c i).length q) ∧ Arr w f s B (c i) ∧ vs[i]? = some (.slice B (c i).length q) := by
  subst hv
  have hm := (own_reads h.row).1
  subst hm
  have hg : vs[i]? = some vs[i] := List.getElem?_eq_getElem hi
  obtain ⟨B, q, e', hr⟩ := h.reads i _ hg
  obtain ⟨g, h1, ⟨k', h2⟩, _, h4, _⟩ := own_cell h.row hg
  injection h2 with h2
  exact ⟨g, B, q, h2, by rw [h4, e'], hr, by rw [hg, e']⟩
theorem Rd.len (h : Rd w f st s vK vs c) {m : Nat} {A : Option Addr} {k : Nat} (hv : vK = .slice A m k) : m = vs.length := by
  subst hv
  exact (own_reads h.row).1
end
theorem mod_set1 (w : World) (g q : Nat) (a : Value) : Mod (fun b => some g = some b) w (w.setCell ⟨g, q, none⟩ a) :=
  mod_set (S := fun b => some g = some b) (Mod.refl _ _) (.inl rfl) _
theorem mod_set2 (w : World) (g q : Nat) (a b : Value) : Mod (fun b => some g = some b) w ((w.setCell ⟨g, q, none⟩ a).setCell ⟨g, q + 1, none⟩ b) :=
  mod_set (S := fun b => some g = some b) (mod_set1 w g q a) (.inl rfl) _
theorem mod_set4 (w : World) (g q : Nat) (a b c d : Value) : Mod (fun b => some g = some b) w ((((w.setCell ⟨g, q, none⟩ a).setCell ⟨g, q + 1, none⟩ b).setCell ⟨g, q + 2, none⟩ c).setCell ⟨g, q + 3, none⟩ d) :=
  mod_set (S := fun b => some g = some b) (mod_set (S := fun b => some g = some b) (mod_set2 w g q a b) (.inl rfl) _) (.inl rfl) _
theorem enc_cons (f : α → List Value) (x : α) (l : List α) : enc f (x :: l) = f x ++ enc f l := rfl
theorem set_app {β : Type} (a b : List β) (n i : Nat) (x : β) (h : a.length = n) : (a ++ b).set (n + i) x = a ++ b.set i x := by
  rw [List.set_append, if_neg (by omega)]
  congr 2
  omega
theorem enc_set1 {f : α → List Value} (hf : ∀ y, (f y).length = 1) {a : Value} : ∀ (l : List α) (k : Nat) (x : α), f x = [a] → (enc f l).set k a = enc f (l.set k x)
  | [], k, x, _ => by simp [enc]
  | y :: l, 0, x, hx => by
    obtain ⟨b, hb⟩ := List.length_eq_one_iff.1 (hf y)
    rw [List.set_cons_zero, enc_cons, enc_cons, hb, hx]; rfl
  | y :: l, k + 1, x, hx => by
    rw [List.set_cons_succ, enc_cons, enc_cons, ← enc_set1 hf l k x hx, show k + 1 = 1 + k by omega, set_app _ _ 1 k _ (hf y)]
theorem enc_set2 {f : α → List Value} (hf : ∀ y, (f y).length = 2) {a b : Value} : ∀ (l : List α) (k : Nat) (x : α), f x = [a, b] → ((enc f l).set (k * 2) a).set (k * 2 + 1) b = enc f (l.set k x)
  | [], k, x, _ => by simp [enc]
  | y :: l, 0, x, hx => by
    obtain ⟨p, q, hb⟩ : ∃ p q, f y = [p, q] := by
      have := hf y
      match f y, this with
      | [p, q], _ => exact ⟨p, q, rfl⟩
    rw [List.set_cons_zero, enc_cons, enc_cons, hb, hx]; rfl
  | y :: l, k + 1, x, hx => by
    rw [List.set_cons_succ, enc_cons, enc_cons, ← enc_set2 hf l k x hx, show (k + 1) * 2 = 2 + k * 2 by omega, set_app _ _ 2 _ _ (hf y), Nat.add_assoc, set_app _ _ 2 _ _ (hf y)]
theorem enc_set4 {f : α → List Value} (hf : ∀ y, (f y).length = 4) {a b c d : Value} : ∀ (l : List α) (k : Nat) (x : α), f x = [a, b, c, d] → ((((enc f l).set (k * 4) a).set (k * 4 + 1) b).set (k * 4 + 2) c).set (k * 4 + 3) d = enc f (l.set k x)
  | [], k, x, _ => by simp [enc]
  | y :: l, 0, x, hx => by
    obtain ⟨p, q, r, t, hb⟩ : ∃ p q r t, f y = [p, q, r, t] := by
      have := hf y
      match f y, this with
      | [p, q, r, t], _ => exact ⟨p, q, r, t, rfl⟩
    rw [List.set_cons_zero, enc_cons, enc_cons, hb, hx]; rfl
  | y :: l, k + 1, x, hx => by
    rw [List.set_cons_succ, enc_cons, enc_cons, ← enc_set4 hf l k x hx, show (k + 1) * 4 = 4 + k * 4 by omega, set_app _ _ 4 _ _ (hf y), Nat.add_assoc, set_app _ _ 4 _ _ (hf y), Nat.add_assoc, set_app _ _ 4 _ _ (hf y), Nat.add_assoc, set_app _ _ 4 _ _ (hf y)]
theorem take_drop_set {β : Type} {m c : List β} {k : Nat} {x : β} (h : m.length = c.length) (hx : m[k]? = some x) : (m.take k ++ c.drop k).set k x = m.take (k + 1) ++ c.drop (k + 1) := by
  have hk : k < m.length := by
    rcases Nat.lt_or_ge k m.length with h | h
    · exact h
    · rw [List.getElem?_eq_none h] at hx; cases hx
  have hl : (m.take k).length = k := by rw [List.length_take]; omega
  rw [List.set_append, if_neg (by omega), hl, Nat.sub_self, List.drop_eq_getElem_cons (by omega), List.set_cons_zero]
  have e : m.take (k + 1) = m.take k ++ [x] := by
    rw [List.take_add_one, hx]; rfl
  rw [e, List.append_assoc]
  rfl
end
end Go.Proofs.YtbelbhdhcgpcpaaGreatDoor.Bk
