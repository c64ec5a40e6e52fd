/- Words for GraphGrows: a row of nodes that is a copy of another one with one more, a number that is stored into a row of the call's own. -/
import Derived.Test.YtbelbhdhcgpcpaaDoorGrReach
import Derived.Test.YtbelbhdhcgpcpaaDoorGrTwo
import Derived.Test.YtbelbhdhcgpcpaaDoorGrMore
namespace Go.Proofs.YtbelbhdhcgpcpaaDoor.Gr
open Go.RowKit Go.Proofs.YtbelbhdhcgpcpaaDoor.Base
set_option linter.unusedVariables false
set_option linter.unusedSimpArgs false

/-- The cells of a row of nodes. -/
def NewsOk (w : World) (news : List Value) (l : List Nd) : Prop :=
  news.length = l.length * 2 ∧ ∀ j, (h : j < l.length) → ∃ A c B d, news[j * 2]? = some (.slice A l[j].slots.length c) ∧ news[j * 2 + 1]? = some (.slice B l[j].words.length d) ∧ Ints w A l[j].slots ∧ Ints w B l[j].words
def pick2 (f : Nat → Value) (j : Nat) : List Value := [f (j * 2), f (j * 2 + 1)]
theorem pick2_len (f : Nat → Value) (j : Nat) : (pick2 f j).length = 2 := rfl
theorem nodes_news {w : World} {D : Option Addr} {l : List Nd} (h : Nodes w D l) : ∃ news : List Value, Reads w 2 D l.length news ∧ (∀ u ∈ news, u.oneCell' = true) ∧ NewsOk w news l := by
  rcases Nat.eq_zero_or_pos l.length with h0 | h0
  · refine ⟨[], ⟨by rw [h0]; rfl, fun h => absurd h (by simp)⟩, by simp, by rw [h0]; rfl, fun j hj => by omega⟩
  · obtain ⟨ad, rfl, -⟩ := h.2 0 h0
    let f : Nat → Value := fun j => (w.cell? (ad.add j)).getD (.bool false)
    have hf : ∀ j, j < l.length → ∃ A c B d, w.cell? (ad.add (j * 2)) = some (.slice A (l.getD j ⟨[], []⟩).slots.length c) ∧ w.cell? (ad.add (j * 2 + 1)) = some (.slice B (l.getD j ⟨[], []⟩).words.length d) ∧ Ints w A (l.getD j ⟨[], []⟩).slots ∧ Ints w B (l.getD j ⟨[], []⟩).words := by
      intro j hj
      obtain ⟨ad', e, A, c, B, d, h1, h2, h3, h4⟩ := h.2 j hj
      injection e with e
      subst e
      have hg : l.getD j ⟨[], []⟩ = l[j] := by simp [hj]
      rw [hg]
      refine ⟨A, c, B, d, h1, ?_, h3, h4⟩
      rw [← h2]
      congr 1
      rw [← add_of_add]
      unfold Addr.add
      simp
    have hlen : (enc (pick2 f) (List.range l.length)).length = l.length * 2 := by rw [enc_len (pick2_len f), List.length_range]
    have hget : ∀ j, j < l.length → ∀ r, r < 2 → (enc (pick2 f) (List.range l.length))[j * 2 + r]? = some (f (j * 2 + r)) := by
      intro j hj r hr
      rw [enc_get (pick2_len f) _ j (by simpa using hj) r hr]
      simp only [List.getElem_range]
      rcases (by omega : r = 0 ∨ r = 1) with rfl | rfl <;> rfl
    have hcell : ∀ j, j < l.length → ∀ r, r < 2 → w.cell? (ad.add (j * 2 + r)) = some (f (j * 2 + r)) ∧ (f (j * 2 + r)).oneCell' = true := by
      intro j hj r hr
      obtain ⟨A, c, B, d, h1, h2, -, -⟩ := hf j hj
      rcases (by omega : r = 0 ∨ r = 1) with rfl | rfl
      · simp only [f, Nat.add_zero, h1, Option.getD_some]; exact ⟨trivial, rfl⟩
      · simp only [f, h2, Option.getD_some]; exact ⟨trivial, rfl⟩
    have hdiv : ∀ j, j < l.length * 2 → j / 2 < l.length ∧ j % 2 < 2 ∧ j / 2 * 2 + j % 2 = j := fun j hj => ⟨by omega, by omega, by omega⟩
    refine ⟨enc (pick2 f) (List.range l.length), ⟨hlen, fun _ => ⟨ad, rfl, fun j u hu => ?_⟩⟩, fun u hu => ?_, hlen, fun j hj => ?_⟩
    · have hj : j < l.length * 2 := by
        rw [← hlen]
        rcases Nat.lt_or_ge j (enc (pick2 f) (List.range l.length)).length with h | h
        · exact h
        · rw [List.getElem?_eq_none h] at hu; cases hu
      obtain ⟨q1, q2, q3⟩ := hdiv j hj
      have h1 := hget _ q1 _ q2
      rw [q3] at h1
      rw [hu] at h1
      injection h1 with h1
      have h2 := (hcell _ q1 _ q2).1
      rw [q3] at h2
      rw [h1, h2]
    · obtain ⟨j, hj, e⟩ := List.getElem_of_mem hu
      rw [hlen] at hj
      obtain ⟨q1, q2, q3⟩ := hdiv j hj
      have h1 := hget _ q1 _ q2
      rw [q3, List.getElem?_eq_getElem (by rw [hlen]; exact hj)] at h1
      injection h1 with h1
      rw [← e, h1]
      have := (hcell _ q1 _ q2).2
      rw [q3] at this
      exact this
    · obtain ⟨A, c, B, d, h1, h2, h3, h4⟩ := hf j hj
      have hg : l.getD j ⟨[], []⟩ = l[j] := by simp [hj]
      rw [hg] at h1 h2 h3 h4
      have e1 := hget j hj 0 (by omega)
      have e2 := hget j hj 1 (by omega)
      simp only [Nat.add_zero] at e1
      refine ⟨A, c, B, d, ?_, ?_, h3, h4⟩
      · rw [e1]; simp only [f, h1, Option.getD_some]
      · rw [e2]; simp only [f, h2, Option.getD_some]
theorem grown_nodes {w w' : World} {news : List Value} {l : List Nd} {y : Nd} {Ys Yw AN : Option Addr} {cs cw cN base n : Nat} (hn : NewsOk w news l) (h1 : Ints w Ys y.slots) (h2 : Ints w Yw y.words) (hl : l.length + 1 = n) (hn1 : n ≤ 17592186044416)
    (ho : w'.ownsRow base 32 2 (.slice AN n cN) n (news ++ [.slice Ys y.slots.length cs, .slice Yw y.words.length cw])) (hb : Below w.heap.size w w') : Nodes w' AN (l ++ [y]) := by
  subst hl
  refine ⟨by simpa using hn1, fun i hi => ?_⟩
  have hr := Reads.of_own ho
  obtain ⟨ad, rfl, hc⟩ := hr.2 (by simp)
  have hi' : i < l.length + 1 := by simpa using hi
  have hadd : (⟨(ad.add (i * 2)).block, (ad.add (i * 2)).off + 1, none⟩ : Addr) = ad.add (i * 2 + 1) := by
    rw [← add_of_add]
    unfold Addr.add
    simp
  refine ⟨ad, rfl, ?_⟩
  by_cases hlt : i < l.length
  · rw [List.getElem_append_left hlt]
    obtain ⟨A, c, B, d, x1, x2, i1, i2⟩ := hn.2 i hlt
    refine ⟨A, c, B, d, hc _ _ ?_, ?_, i1.below hb, i2.below hb⟩
    · rw [List.getElem?_append_left (by rw [hn.1]; omega)]; exact x1
    · rw [hadd]
      refine hc _ _ ?_
      rw [List.getElem?_append_left (by rw [hn.1]; omega)]; exact x2
  · have hie : i = l.length := by omega
    subst hie
    rw [List.getElem_append_right (Nat.le_refl _)]
    simp only [Nat.sub_self, List.getElem_cons_zero]
    refine ⟨Ys, cs, Yw, cw, hc _ _ ?_, ?_, h1.below hb, h2.below hb⟩
    · rw [List.getElem?_append_right (by rw [hn.1]; omega), show l.length * 2 - news.length = 0 by rw [hn.1]; omega]; rfl
    · rw [hadd]
      refine hc _ _ ?_
      rw [List.getElem?_append_right (by rw [hn.1]; omega), show l.length * 2 + 1 - news.length = 1 by rw [hn.1]; omega]; rfl

/-- A number that is stored into a row of the call's own. -/
theorem own_set_ints {w : World} {base e c n k : Nat} {A : Option Addr} {l : List Int} (h : w.ownsRow base e 1 (.slice A n c) n (enc ic l)) (hk : k < n) (v : Int) :
    ∃ g, A = some ⟨g, 0, none⟩ ∧ base ≤ g ∧ g < w.heap.size ∧ (∃ u, w.cell? ⟨g, k, none⟩ = some u) ∧ w.frozen? ⟨g, k, none⟩ = false ∧ (w.setCell ⟨g, k, none⟩ (.int .i64 v)).ownsRow base e 1 (.slice A n c) n (enc ic (l.set k v)) := by
  obtain ⟨h1, h2⟩ := h
  rcases h2 with ⟨h2, h3⟩ | ⟨g, cap, cur, e1, hg, hh, hn, hm, hs, ht⟩
  · injection h2 with _ h2 _
    omega
  · injection e1 with e1 _ e2
    subst e1 e2
    have hB : Blk w g e cur := hh
    have hkc : k < cur.size := by rw [hs]; omega
    refine ⟨g, rfl, hg, hB.lt, ⟨cur[k], ?_⟩, hB.frozen k, by rw [enc_len ic_len, List.length_set]; rw [enc_len ic_len] at h1; exact h1, .inr ⟨g, c, cur.setIfInBounds k (.int .i64 v), rfl, hg, hB.set_ k _, hn, hm, by simpa using hs, ?_⟩⟩
    · rw [hB.cell k]; simp [hkc]
    · rw [Array.toList_setIfInBounds, List.take_set, ht, enc_ic, enc_ic, List.map_set]
theorem own_other {w : World} {b1 b2 e1 e2 s1 s2 n1 n2 : Nat} {v1 v2 : Value} {x1 x2 : List Value} (h1 : w.ownsRow b1 e1 s1 v1 n1 x1) (h2 : w.ownsRow b2 e2 s2 v2 n2 x2) (hne : e1 ≠ e2) : ∀ k, v1.ownBlock = some k → ¬ (some k = v2.ownBlock) := by
  intro k hk he
  rcases h2.2 with ⟨rfl, _⟩ | ⟨g, cap, cur, rfl, _, hh, _⟩
  · simp [Value.ownBlock] at he
  · have : k = g := by simpa [Value.ownBlock] using he
    subst this
    exact own_blk_ne h1 (t := e2) hh hne hk

/-! ### appends one behind the other in one region that draws: what stays -/
theorem near_low {w6 wK W : World} (hL : Below w6.heap.size w6 wK) (hn : Below wK.heap.size wK W) : Below w6.heap.size w6 W := below_then hL hn
theorem nil_post {w6 wK W w' : World} (hL : Below w6.heap.size w6 wK) (hn : Below wK.heap.size wK W) (hg : W.grownBy w' (Value.slice none 0 0).ownBlock) : Below w6.heap.size w6 w' ∧ Below wK.heap.size wK w' := by
  have h : Below W.heap.size W w' := (Mod.of_grown hg).below (fun b _ e => by simp [Value.ownBlock] at e)
  exact ⟨below_then (below_then hL hn) h, below_then hn h⟩
theorem own_post {w6 wK W w' : World} {e s n : Nat} {v : Value} {xs : List Value} (hN : wK.ownsRow w6.heap.size e s v n xs) (hL : Below w6.heap.size w6 wK) (hn : Below wK.heap.size wK W) (hg : W.grownBy w' v.ownBlock) :
    Below w6.heap.size w6 w' ∧ ∀ (b2 e2 s2 n2 : Nat) (v2 : Value) (x2 : List Value), wK.ownsRow b2 e2 s2 v2 n2 x2 → e2 ≠ e → w'.ownsRow b2 e2 s2 v2 n2 x2 := by
  refine ⟨⟨?_, ?_, ?_, ?_, ?_⟩, ?_⟩
  · exact (Mod.of_grown hg).os.trans (below_then hL hn).os
  · exact (Mod.of_grown hg).tape.trans (below_then hL hn).tape
  · exact (Mod.of_grown hg).output.trans (below_then hL hn).output
  · exact Nat.le_trans (below_then hL hn).size (Mod.of_grown hg).size
  · intro k hk
    refine ((Mod.of_grown hg).block k (Nat.lt_of_lt_of_le hk (below_then hL hn).size) (fun e => ?_)).trans ((below_then hL hn).block k hk)
    have := (own_block hN k e.symm).1
    omega
  · intro b2 e2 s2 n2 v2 x2 h2 hne
    exact own_mod (own_below h2 hn) (Mod.of_grown hg) (fun k hk e => own_other h2 hN hne k hk e)
theorem nil_below {W w' : World} (hg : W.grownBy w' (Value.slice none 0 0).ownBlock) : Below W.heap.size W w' := (Mod.of_grown hg).below (fun b _ e => by simp [Value.ownBlock] at e)
theorem blk_on {W w' : World} {k : Nat} {t : TypeId} {cs : Array Value} (h : Blk W k t cs) (hb : Below W.heap.size W w') : Blk w' k t cs := h.below hb h.lt
theorem blk_near {wK W w' : World} {k : Nat} {t : TypeId} {cs : Array Value} (h : Blk wK k t cs) (hn : Below wK.heap.size wK W) (hb : Below W.heap.size W w') : Blk w' k t cs := blk_on (blk_on h hn) hb
theorem blk_other {W w' : World} {base e s n k : Nat} {v : Value} {xs : List Value} {t : TypeId} {cs : Array Value} (h : Blk W k t cs) (hN : W.ownsRow base e s v n xs) (hne : e ≠ t) (hg : W.grownBy w' v.ownBlock) : Blk w' k t cs :=
  h.mod (Mod.of_grown hg) (fun e => own_blk_ne hN h hne e.symm)
theorem blk_second_drew (w : World) (o : Obj) (t : TypeId) (cs : Array Value) : Blk ((w.alloc o).alloc (.cells cs t)).drew (w.heap.size + 1) t cs := (blk_second w o t cs).drewN 1
theorem reads_blk {w : World} {k s n : Nat} {t : TypeId} {cs : Array Value} (h : Blk w k t cs) (hs : cs.size = n * s) : Reads w s (some ⟨k, 0, none⟩) n cs.toList := by
  refine ⟨by simpa using hs, fun _ => ⟨_, rfl, fun j u hu => ?_⟩⟩
  rw [add_of_zero, h.cell j]
  simpa using hu

end Go.Proofs.YtbelbhdhcgpcpaaDoor.Gr
