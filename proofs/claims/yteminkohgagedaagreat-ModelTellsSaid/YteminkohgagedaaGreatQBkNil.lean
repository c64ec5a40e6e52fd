/- The book's functions over kinds of lists of which it holds none. Printed by gen_booknil.py. -/
import Derived.Test.YteminkohgagedaaGreatQBase
import Derived.Deep.Upon
import Derived.Deep.RegionLaw
import Derived.ChangeAgain
import Derived.Test.YteminkohgagedaaGreatProg
namespace Go.Proofs.YteminkohgagedaaGreat.Bk
open Go.RowKit Go.Proofs.YteminkohgagedaaGreat.Base
set_option linter.unusedVariables false
set_option linter.unusedSimpArgs false

section
variable {w w' w1 : World} {base e s n : Nat} {v : Value} {xs : List Value}

theorem own_reads {A : Option Addr} {c m : Nat} (h : w.ownsRow base e s (.slice A m c) n xs) : m = n ∧ Reads w s A n xs := by
  obtain ⟨A', c', e', _⟩ := own_form h
  injection e' with e1 e2 e3
  subst e1 e2 e3
  exact ⟨rfl, Reads.of_own h⟩
theorem own_mod {S : Nat → Prop} (h : w.ownsRow base e s v n xs) (hm : Mod S w w') (hs : ∀ k, v.ownBlock = some k → ¬ S k) : w'.ownsRow base e s v n xs := by
  obtain ⟨h1, h2⟩ := h
  refine ⟨h1, ?_⟩
  rcases h2 with h2 | ⟨g, cap, cur, rfl, hg, hh, r⟩
  · exact .inl h2
  · exact .inr ⟨g, cap, cur, rfl, hg, Base.Blk.mod (w := w) hh hm (hs g rfl), r⟩
theorem own_zero (h : w.ownsRow base e s v n xs) : w.ownsRow 0 e s v n xs := own_lower h (Nat.zero_le _)
theorem own_size (h : w.ownsRow base e s v n xs) : xs.length = n * s := h.1
/-- Two rows of other cells lie in other blocks. -/
theorem own_type {b2 e2 s2 n2 : Nat} {v2 : Value} {x2 : List Value} (h : w.ownsRow base e s v n xs) (h2 : w.ownsRow b2 e2 s2 v2 n2 x2) (hne : e ≠ e2) : ∀ k, v.ownBlock = some k → v2.ownBlock ≠ some k := by
  intro k hk he
  rcases h2.2 with ⟨rfl, _⟩ | ⟨g, cap, cur, rfl, _, hh, _⟩
  · simp [Value.ownBlock] at he
  · have : g = k := by simpa [Value.ownBlock] using he
    subst this
    exact own_blk_ne h (t := e2) hh hne hk
theorem own_some {A : Option Addr} {m c : Nat} (h : w.ownsRow base e s (.slice A m c) n xs) (hn : 0 < n) : ∃ g, A = some ⟨g, 0, none⟩ := by
  rcases h.2 with ⟨_, h0⟩ | ⟨g, cap, cur, h1, _⟩
  · omega
  · injection h1 with h1
    exact ⟨g, h1⟩
/-- A cell of a row. -/
theorem own_cell {q : Nat} {u : Value} (h : w.ownsRow base e s v n xs) (hu : xs[q]? = some u) : ∃ g, v.ownBlock = some g ∧ (∃ c, v = .slice (some ⟨g, 0, none⟩) n c) ∧ g < w.heap.size ∧ w.cell? ⟨g, q, none⟩ = some u ∧ w.frozen? ⟨g, q, none⟩ = false := by
  obtain ⟨h1, h2⟩ := h
  have hq : q < xs.length := by
    rcases Nat.lt_or_ge q xs.length with h | h
    · exact h
    · rw [List.getElem?_eq_none h] at hu; cases hu
  rcases h2 with ⟨rfl, rfl⟩ | ⟨g, cap, cur, rfl, hg, hh, hn, hm, hs, ht⟩
  · omega
  · have hB : Blk w g e cur := hh
    refine ⟨g, rfl, ⟨cap, rfl⟩, hB.lt, ?_, hB.frozen q⟩
    rw [hB.cell q, ← hu, ← ht]
    have hql : q < n * s := by omega
    rw [List.getElem?_take, if_pos hql]
    simp
/-- A store into one. -/
theorem own_set {q : Nat} {u : Value} {g : Nat} (h : w.ownsRow base e s v n xs) (hg : v.ownBlock = some g) (hq : q < xs.length) : (w.setCell ⟨g, q, none⟩ u).ownsRow base e s v n (xs.set q u) := by
  obtain ⟨h1, h2⟩ := h
  rcases h2 with ⟨rfl, rfl⟩ | ⟨g', cap, cur, rfl, hb, hh, hn, hm, hs, ht⟩
  · simp [Value.ownBlock] at hg
  · have : g' = g := by simpa [Value.ownBlock] using hg
    subst this
    have hB : Blk w g' e cur := hh
    refine ⟨by rw [List.length_set]; exact h1, .inr ⟨g', cap, cur.setIfInBounds q u, rfl, hb, hB.set_ q u, hn, hm, by simpa using hs, ?_⟩⟩
    rw [Array.toList_setIfInBounds, List.take_set, ht]
theorem mod_set {S : Nat → Prop} {p : Addr} (h : Mod S w w1) (hp : S p.block ∨ w.heap.size ≤ p.block) (u : Value) : Mod S w (w1.setCell p u) := by
  refine ⟨h.os, h.tape, h.output, by simpa [World.setCell] using h.size, fun k hk hn => ?_⟩
  have hne : k ≠ p.block := by
    rintro rfl
    rcases hp with hp | hp
    · exact hn hp
    · omega
  exact (Below.heap_setCell _ _ _ _ hne).trans (h.block k hk hn)
theorem mod_below {S : Nat → Prop} (h : Mod S w w1) (hb : Below w1.heap.size w1 w') : Mod S w w' := h.trans (Mod.of_below (S := S) hb) (fun _ _ h => h)
end

theorem reads_mod {S : Nat → Prop} {w w' : World} {s n : Nat} {A : Option Addr} {xs : List Value} (h : Reads w s A n xs) (hm : Mod S w w') (hA : ∀ ad, A = some ad → ¬ S ad.block) : Reads w' s A n xs :=
  h.keep fun p u hp hb => by
    obtain ⟨ad, e1, e2⟩ := hb
    rw [World.cell?_of_block (hm.block p.block (cell_lt hp) (fun hS => hA ad e1 (e2 ▸ hS)))]
    exact hp

/-! ### an append to a row of the call's own: in its place, or all anew -/
section
variable {P : Program} (w : World)
theorem came_own {w : World} {base e s n : Nat} {v : Value} {xs : List Value} (h : w.ownsRow base e s v n xs) : ∃ ao b cap, v = .slice ao n cap ∧ Came w s ao b 0 n cap xs ∧ (∀ k, v.ownBlock = some k → ao = some ⟨k, 0, none⟩ ∧ k < w.heap.size) := by
  obtain ⟨h1, h2⟩ := h
  rcases h2 with ⟨rfl, rfl⟩ | ⟨g, cap, cur, rfl, hb, hh, hn, hm, hs, ht⟩
  · have : xs = [] := List.eq_nil_of_length_eq_zero (by omega)
    subst this
    exact ⟨none, 0, 0, rfl, ⟨Nat.le_refl _, fun h => absurd h (by omega), fun h => absurd h (by omega), by simp, by simp, fun j h => by simp at h⟩, fun k hk => by simp [Value.ownBlock] at hk⟩
  · have hB : Blk w g e cur := hh
    refine ⟨_, g, cap, rfl, ⟨hn, fun _ => rfl, fun _ => hB.lt, h1, fun j u hu => ?_, fun j hj => ?_⟩, fun k hk => ?_⟩
    · rw [hB.cell]
      have hjl : j < xs.length := by
        rcases Nat.lt_or_ge j xs.length with h | h
        · exact h
        · rw [List.getElem?_eq_none h] at hu; cases hu
      rw [← hu, ← ht, List.getElem?_take, if_pos (by omega)]
      simp
    · rw [hB.cell]
      have hlt : 0 + n * s + j < cur.size := by
        rw [hs]
        have : (cap - n) * s + n * s = cap * s := by rw [← Nat.add_mul]; congr 1; omega
        omega
      exact ⟨by rw [Array.getElem?_eq_getElem hlt]; rfl, hB.frozen _⟩
    · have : g = k := by simpa [Value.ownBlock] using hk
      subst this
      exact ⟨rfl, hB.lt⟩
theorem run_append_kept (base : Nat) (t ty e : TypeId) (i : TypeInfo) (z : Value) (size bytes : Nat) (ht : P.underlying t = some (.slice e)) (hi : P.info? e = some i) (hz : i.zero = some z)
    (hsize : i.size = size) (hby : i.bytes = bytes) (hzs : z.cells.size = size) (hsz : 0 < size)
    (v : Value) (n : Nat) (xs : List Value) (hown : w.ownsRow base e size v n xs)
    (a : Addr) (m c : Nat) (news : List Value) (hr : Reads w size (some a) m news) (h1 : ∀ u ∈ news, u.oneCell' = true)
    (h63 : n + m ≤ maxLen) (hbytes : (n + m) * bytes ≤ 140737488355328) (hbase : base ≤ w.heap.size) (hm : 0 < m) :
    ∃ v' w', (Builtin.append_ #[t, t] ty #[v, .slice (some a) m c]).run P w = .ok v' w' ∧ w'.ownsRow base e size v' (n + m) (xs ++ news) ∧ w.grownBy w' v.ownBlock ∧
      ((v'.ownBlock = v.ownBlock ∧ ∃ g, v'.ownBlock = some g) ∨ (v'.ownBlock = some w.heap.size ∧ Below w.heap.size w w')) := by
  have hcells : ∀ j u, news[j]? = some u → w.cell? (a.add j) = some u := by
    intro j u hu
    have hl : j < news.length := by
      rcases Nat.lt_or_ge j news.length with h | h
      · exact h
      · rw [List.getElem?_eq_none h] at hu; cases hu
    obtain ⟨ad', h, hc⟩ := hr.2 (by omega)
    injection h with h
    subst h
    exact hc j u hu
  obtain ⟨v', w', hrun, h2, h3, h4, h5⟩ := run_append_own_at (P := P) w base t ty e i z size bytes ht hi hz hsize hby hzs hsz v n xs hown a m c news hr.1 hcells h1 h63 hbytes hbase
  obtain ⟨ao, b, cap, rfl, hc, hao⟩ := came_own hown
  obtain ⟨v2, w2, hrun2, hU⟩ := run_append_upon (P := P) hc t t ty i z bytes ht hi hz hsize hby hzs (Upon.start (e := e) hc) (.slice (some a) m c) m news (Src.ofSlice w ht a m c news hr.1 hcells h1) (by omega) (by simpa using hbytes)
  rw [hrun] at hrun2
  injection hrun2 with e1 e2
  subst e1 e2
  refine ⟨v', w', hrun, h2, h3, ?_⟩
  have hg' : ∃ g, v'.ownBlock = some g := by
    rcases h2.2 with ⟨_, h0⟩ | ⟨g, _, _, rfl, _⟩
    · omega
    · exact ⟨g, rfl⟩
  rcases hU.val with ⟨hle, hv, hr0⟩ | ⟨hgt, g, c', hv, ho⟩
  · refine .inl ⟨?_, hg'⟩
    rw [hv]
    cases ao <;> rfl
  · refine .inr ?_
    have hne : v'.ownBlock = some w.heap.size := by
      rcases h5 with h5 | h5
      · obtain ⟨q, hq⟩ := hg'
        rw [hq] at h5
        have := (hao q h5.symm).2
        have hgq : g = q := by rw [hv] at hq; simpa [Value.ownBlock] using hq
        have := ho.new
        omega
      · exact h5
    refine ⟨hne, h3.os, h3.tape, h3.output, h3.size, fun k hk => ?_⟩
    refine hU.kept.block hk ?_
    rintro p ⟨j, hj, rfl⟩
    have : Upon.next n cap size 0 0 m = 0 := by
      unfold Upon.next
      rw [if_neg (by omega)]
    omega
theorem wpList_append_kept {ops : Array Oper} {rest : List Oper} {o : Oper} {a : Act} {Q : Exit → Act → World → Prop} (hgd : o.guard = none) (s x : Operand) (t : TypeId)
    (ho : o.op = .call { callee := .builtin .append, args := #[s, x], argTypes := #[t, t] })
    (base : Nat) (e : TypeId) (i : TypeInfo) (z : Value) (size bytes : Nat) (ht : P.underlying t = some (.slice e)) (hi : P.info? e = some i) (hz : i.zero = some z)
    (hsize : i.size = size) (hby : i.bytes = bytes) (hzs : z.cells.size = size) (hsz : 0 < size)
    (v : Value) (n : Nat) (xs : List Value) (hs : a.eval s = v) (hown : w.ownsRow base e size v n xs)
    (A : Addr) (m c : Nat) (news : List Value) (hx : a.eval x = .slice (some A) m c) (hr : Reads w size (some A) m news) (h1 : ∀ u ∈ news, u.oneCell' = true)
    (h63 : n + m ≤ maxLen) (hbytes : (n + m) * bytes ≤ 140737488355328) (hbase : base ≤ w.heap.size) (hm : 0 < m)
    (h : ∀ v' w', w'.ownsRow base e size v' (n + m) (xs ++ news) → w.grownBy w' v.ownBlock → ((v'.ownBlock = v.ownBlock ∧ ∃ g, v'.ownBlock = some g) ∨ (v'.ownBlock = some w.heap.size ∧ Below w.heap.size w w')) → wpList P ops Q rest (a.put o.dst v') w') : wpList P ops Q (o :: rest) a w :=
  wpList_plain hgd fun _ hK => by
    obtain ⟨v', w', hrun, h2, h3, h4⟩ := run_append_kept (P := P) w base t o.type e i z size bytes ht hi hz hsize hby hzs hsz v n xs hown A m c news hr h1 h63 hbytes hbase hm
    unfold Oper.wp execOp
    simp only [ho, resolve, invoke, builtin, Sem.run_bind, Sem.run_pure, Result.andThen_ok, List.map_toArray, List.map_cons, List.map_nil, hs, hx, hrun]
    exact hK _ _ (h v' w' h2 h3 h4)
end

/-! ### a list that grows, maybe out of the memory of another one -/
/-- v0: the list as it is kept; v: the one that grew out of it. -/
structure Gw (W w : World) (e s : Nat) (v0 v : Value) (n0 n : Nat) (xs0 xs : List Value) : Prop where
  own : w.ownsRow 0 e s v n xs
  mod : Mod (fun b => v0.ownBlock = some b) W w
  old : ∀ A c, v0 = .slice A n0 c → Reads w s A n0 xs0
  le : n0 ≤ n
  pre : xs.take (n0 * s) = xs0
  spot : v = v0 ∨ v.ownBlock = v0.ownBlock ∧ (∃ g, v.ownBlock = some g) ∨ (∃ g, v.ownBlock = some g ∧ W.heap.size ≤ g)
section
variable {W w w' : World} {e s n0 n : Nat} {v0 v : Value} {xs0 xs : List Value}
theorem Gw.start (h : W.ownsRow 0 e s v0 n0 xs0) : Gw W W e s v0 v0 n0 n0 xs0 xs0 :=
  ⟨h, Mod.refl _ _, fun A c e => by subst e; exact (own_reads h).2, Nat.le_refl _, by rw [← h.1, List.take_length], .inl rfl⟩
theorem Gw.below (h : Gw W w e s v0 v n0 n xs0 xs) (hb : Below w.heap.size w w') : Gw W w' e s v0 v n0 n xs0 xs :=
  ⟨own_below h.own hb, mod_below h.mod hb, fun A c e => (h.old A c e).below hb, h.le, h.pre, h.spot⟩
theorem Gw.app (h : Gw W w e s v0 v n0 n xs0 xs) {m : Nat} {v' : Value} {news : List Value} (ho : w'.ownsRow 0 e s v' (n + m) (xs ++ news)) (hg : w.grownBy w' v.ownBlock)
    (hat : (v'.ownBlock = v.ownBlock ∧ ∃ g, v'.ownBlock = some g) ∨ (v'.ownBlock = some w.heap.size ∧ Below w.heap.size w w')) (h0 : W.ownsRow 0 e s v0 n0 xs0) : Gw W w' e s v0 v' n0 (n + m) xs0 (xs ++ news) := by
  have hx : xs.length = n * s := h.own.1
  have hns : n0 * s ≤ n * s := Nat.mul_le_mul_right _ h.le
  have hpre : (xs ++ news).take (n0 * s) = xs0 := by rw [List.take_append_of_le_length (by omega)]; exact h.pre
  have h0l : ∀ b, v0.ownBlock = some b → b < W.heap.size := fun b hb => (own_block h0 b hb).2
  rcases hat with ⟨hat, g, hg'⟩ | ⟨hat, hB⟩
  · -- in its place
    rw [hg'] at hat
    have hgw : g < w.heap.size := (own_block h.own g hat.symm).2
    have hspot : v.ownBlock = v0.ownBlock ∨ W.heap.size ≤ g := by
      rcases h.spot with rfl | ⟨h1, _⟩ | ⟨q, h1, h2⟩
      · exact .inl rfl
      · exact .inl h1
      · rw [h1] at hat; injection hat with hat; exact .inr (by omega)
    refine ⟨ho, ?_, ?_, by have := h.le; omega, hpre, ?_⟩
    · refine h.mod.trans (Mod.of_grown hg) (fun b hb e' => ?_)
      rcases hspot with h1 | h1
      · exact h1 ▸ e'.symm
      · rw [← e'] at hat; injection hat with hat; omega
    · intro A c e'
      rcases hspot with h1 | h1
      · have hA : v0.ownBlock = some g := h1 ▸ hat.symm
        -- the same array
        have hAg : A = some ⟨g, 0, none⟩ := by
          subst e'
          obtain ⟨ao, b, cap, e2, _, hao⟩ := came_own h0
          injection e2 with e2
          rw [e2]; exact (hao g hA).1
        obtain ⟨A', c', rfl, _⟩ := own_form ho
        have hA' : A' = some ⟨g, 0, none⟩ := by
          obtain ⟨ao, b, cap, e2, _, hao⟩ := came_own ho
          injection e2 with e2
          rw [e2]; exact (hao g hg').1
        have hr := ((own_reads ho).2).take (k := n0) (by have := h.le; omega)
        rw [hpre] at hr
        rw [hAg, ← hA']; exact hr
      · refine (h.old A c e').keep fun p u hp hb => ?_
        obtain ⟨ad, e1, e2⟩ := hb
        rw [World.cell?_of_block (hg.block p.block (cell_lt hp) (fun hk => ?_))]
        · exact hp
        · rw [← hk] at hat
          injection hat with hat
          have := h0l ad.block (by subst e'; rw [e1]; rfl)
          omega
    · rcases hspot with h1 | h1
      · exact .inr (.inl ⟨by rw [hg', hat, h1], g, hg'⟩)
      · exact .inr (.inr ⟨g, hg', h1⟩)
  · -- anew
    refine ⟨ho, mod_below h.mod hB, fun A c e' => (h.old A c e').below hB, by have := h.le; omega, hpre, .inr (.inr ⟨_, hat, h.mod.size⟩)⟩
end

end Go.Proofs.YteminkohgagedaaGreat.Bk
namespace Go.Proofs.YteminkohgagedaaGreat.Bk
open Go.RowKit Go.Proofs.YteminkohgagedaaGreat.Base
set_option linter.unusedVariables false
set_option linter.unusedSimpArgs false

/-- One of the blocks of these lists. -/
def InVs (vs : List Value) (b : Nat) : Prop := ∃ v ∈ vs, v.ownBlock = some b
theorem InVs.of_get {vs : List Value} {i b : Nat} {v : Value} (h : vs[i]? = some v) (hb : v.ownBlock = some b) : InVs vs b := ⟨v, List.mem_of_getElem? h, hb⟩

section
variable {α : Type} {f : α → List Value} {e st s : Nat}
/-- Lists vs, each a row of its own in a block of its own, that hold what c says; vK is the row of them all. -/
structure Kd (w : World) (f : α → List Value) (e st s : Nat) (vK : Value) (vs : List Value) (c : Nat → List α) : Prop where
  row : w.ownsRow 0 st 1 vK vs.length vs
  own : ∀ (i : Nat) (v : Value), vs[i]? = some v → w.ownsRow 0 e s v (c i).length (enc f (c i))
  apart : ∀ (i j : Nat) (u v : Value), i < j → vs[i]? = some u → vs[j]? = some v → ∀ b, u.ownBlock = some b → v.ownBlock ≠ some b
/-- .. that read so. -/
structure Rd (w : World) (f : α → List Value) (st s : Nat) (vK : Value) (vs : List Value) (c : Nat → List α) : Prop where
  row : w.ownsRow 0 st 1 vK vs.length vs
  reads : ∀ (i : Nat) (v : Value), vs[i]? = some v → ∃ A k, v = .slice A (c i).length k ∧ Arr w f s A (c i)
section
variable {w w' : World} {vK : Value} {vs : List Value} {c d : Nat → List α} {S : Nat → Prop}
theorem Kd.nil (hs : 0 < s) : Kd w f e st s (.slice none 0 0) [] c := ⟨own_nil _ _ _ _, fun i v h => by simp at h, fun i j u v _ h => by simp at h⟩
theorem Kd.block (h : Kd w f e st s vK vs c) : ∀ b, InVs vs b → b < w.heap.size := by
  rintro b ⟨v, hv, hb⟩
  obtain ⟨i, hi⟩ := List.mem_iff_getElem?.1 hv
  exact (own_block (h.own i v hi) b hb).2
theorem Kd.rowBlock (h : Kd w f e st s vK vs c) : ∀ b, vK.ownBlock = some b → b < w.heap.size := fun b hb => (own_block h.row b hb).2
/-- The row of them all is none of them. -/
theorem Kd.rowApart (h : Kd w f e st s vK vs c) (hne : e ≠ st) : ∀ b, vK.ownBlock = some b → ¬ InVs vs b := by
  rintro b hb ⟨v, hv, hvb⟩
  obtain ⟨i, hi⟩ := List.mem_iff_getElem?.1 hv
  exact own_type (h.own i v hi) h.row hne b hvb hb
theorem Kd.mod (h : Kd w f e st s vK vs c) (hm : Mod S w w') (h1 : ∀ b, vK.ownBlock = some b → ¬ S b) (h2 : ∀ b, InVs vs b → ¬ S b) : Kd w' f e st s vK vs c :=
  ⟨own_mod h.row hm h1, fun i v hi => own_mod (h.own i v hi) hm (fun k hk => h2 k (InVs.of_get hi hk)), h.apart⟩
theorem Kd.below (h : Kd w f e st s vK vs c) (hb : Below w.heap.size w w') : Kd w' f e st s vK vs c := h.mod (S := fun _ => False) (Mod.of_below hb) (fun _ _ h => h) (fun _ _ h => h)
theorem Kd.congr (h : Kd w f e st s vK vs c) (hc : ∀ i, i < vs.length → c i = d i) : Kd w f e st s vK vs d :=
  ⟨h.row, fun i v hi => by
    have hlt : i < vs.length := by
      rcases Nat.lt_or_ge i vs.length with h | h
      · exact h
      · rw [List.getElem?_eq_none h] at hi; cases hi
    rw [← hc i hlt]; exact h.own i v hi, h.apart⟩
/-- One of them is turned. -/
theorem Kd.turn (h : Kd w f e st s vK vs c) (hne : e ≠ st) {i : Nat} {v : Value} {l : List α} (hi : vs[i]? = some v) (hm : Mod (fun b => v.ownBlock = some b) w w') (ho : w'.ownsRow 0 e s v l.length (enc f l)) :
    Kd w' f e st s vK vs (fun q => if q = i then l else c q) := by
  refine ⟨own_mod h.row hm (fun k hk hS => h.rowApart hne k hk (InVs.of_get hi hS)), fun q u hq => ?_, h.apart⟩
  by_cases e' : q = i
  · subst e'
    simp only [if_true]
    rw [hi] at hq
    injection hq with hq
    subst hq
    exact ho
  · simp only [if_neg e']
    refine own_mod (h.own q u hq) hm (fun k hk hS => ?_)
    rcases Nat.lt_or_ge q i with hlt | hge
    · exact h.apart q i u v hlt hq hi k hk hS
    · exact h.apart i q v u (by omega) hi hq k hS hk
theorem Kd.rd (h : Kd w f e st s vK vs c) : Rd w f st s vK vs c := ⟨h.row, fun i v hi => by
  obtain ⟨A, k, rfl, _⟩ := own_form (h.own i v hi)
  exact ⟨A, k, rfl, (own_reads (h.own i _ hi)).2⟩⟩
theorem Rd.below (h : Rd w f st s vK vs c) (hb : Below w.heap.size w w') : Rd w' f st s vK vs c := ⟨own_below h.row hb, fun i v hi => by
  obtain ⟨A, k, e, hr⟩ := h.reads i v hi
  exact ⟨A, k, e, hr.below hb⟩⟩
/-- The i-th one, as a walk meets it. -/
theorem Rd.at_ (h : Rd w f st s vK vs c) {i m : Nat} {A : Option Addr} {k : Nat} (hv : vK = .slice A m k) (hi : i < m) : ∃ g B q, A = some ⟨g, 0, none⟩ ∧ w.cell? ⟨g, i, none⟩ = some (.slice B (c i).length q) ∧ Arr w f s B (c i) ∧ vs[i]? = some (.slice B (c i).length q) := by
  subst hv
  have hm := (own_reads h.row).1
  subst hm
  have hg : vs[i]? = some vs[i] := List.getElem?_eq_getElem hi
  obtain ⟨B, q, e', hr⟩ := h.reads i _ hg
  obtain ⟨g, h1, ⟨k', h2⟩, _, h4, _⟩ := own_cell h.row hg
  injection h2 with h2
  exact ⟨g, B, q, h2, by rw [h4, e'], hr, by rw [hg, e']⟩
theorem Rd.len (h : Rd w f st s vK vs c) {m : Nat} {A : Option Addr} {k : Nat} (hv : vK = .slice A m k) : m = vs.length := by
  subst hv
  exact (own_reads h.row).1
end
theorem mod_set1 (w : World) (g q : Nat) (a : Value) : Mod (fun b => some g = some b) w (w.setCell ⟨g, q, none⟩ a) :=
  mod_set (S := fun b => some g = some b) (Mod.refl _ _) (.inl rfl) _
theorem mod_set2 (w : World) (g q : Nat) (a b : Value) : Mod (fun b => some g = some b) w ((w.setCell ⟨g, q, none⟩ a).setCell ⟨g, q + 1, none⟩ b) :=
  mod_set (S := fun b => some g = some b) (mod_set1 w g q a) (.inl rfl) _
theorem mod_set4 (w : World) (g q : Nat) (a b c d : Value) : Mod (fun b => some g = some b) w ((((w.setCell ⟨g, q, none⟩ a).setCell ⟨g, q + 1, none⟩ b).setCell ⟨g, q + 2, none⟩ c).setCell ⟨g, q + 3, none⟩ d) :=
  mod_set (S := fun b => some g = some b) (mod_set (S := fun b => some g = some b) (mod_set2 w g q a b) (.inl rfl) _) (.inl rfl) _
theorem enc_cons (f : α → List Value) (x : α) (l : List α) : enc f (x :: l) = f x ++ enc f l := rfl
theorem set_app {β : Type} (a b : List β) (n i : Nat) (x : β) (h : a.length = n) : (a ++ b).set (n + i) x = a ++ b.set i x := by
  rw [List.set_append, if_neg (by omega)]
  congr 2
  omega
theorem enc_set1 {f : α → List Value} (hf : ∀ y, (f y).length = 1) {a : Value} : ∀ (l : List α) (k : Nat) (x : α), f x = [a] → (enc f l).set k a = enc f (l.set k x)
  | [], k, x, _ => by simp [enc]
  | y :: l, 0, x, hx => by
    obtain ⟨b, hb⟩ := List.length_eq_one_iff.1 (hf y)
    rw [List.set_cons_zero, enc_cons, enc_cons, hb, hx]; rfl
  | y :: l, k + 1, x, hx => by
    rw [List.set_cons_succ, enc_cons, enc_cons, ← enc_set1 hf l k x hx, show k + 1 = 1 + k by omega, set_app _ _ 1 k _ (hf y)]
theorem enc_set2 {f : α → List Value} (hf : ∀ y, (f y).length = 2) {a b : Value} : ∀ (l : List α) (k : Nat) (x : α), f x = [a, b] → ((enc f l).set (k * 2) a).set (k * 2 + 1) b = enc f (l.set k x)
  | [], k, x, _ => by simp [enc]
  | y :: l, 0, x, hx => by
    obtain ⟨p, q, hb⟩ : ∃ p q, f y = [p, q] := by
      have := hf y
      match f y, this with
      | [p, q], _ => exact ⟨p, q, rfl⟩
    rw [List.set_cons_zero, enc_cons, enc_cons, hb, hx]; rfl
  | y :: l, k + 1, x, hx => by
    rw [List.set_cons_succ, enc_cons, enc_cons, ← enc_set2 hf l k x hx, show (k + 1) * 2 = 2 + k * 2 by omega, set_app _ _ 2 _ _ (hf y), Nat.add_assoc, set_app _ _ 2 _ _ (hf y)]
theorem enc_set4 {f : α → List Value} (hf : ∀ y, (f y).length = 4) {a b c d : Value} : ∀ (l : List α) (k : Nat) (x : α), f x = [a, b, c, d] → ((((enc f l).set (k * 4) a).set (k * 4 + 1) b).set (k * 4 + 2) c).set (k * 4 + 3) d = enc f (l.set k x)
  | [], k, x, _ => by simp [enc]
  | y :: l, 0, x, hx => by
    obtain ⟨p, q, r, t, hb⟩ : ∃ p q r t, f y = [p, q, r, t] := by
      have := hf y
      match f y, this with
      | [p, q, r, t], _ => exact ⟨p, q, r, t, rfl⟩
    rw [List.set_cons_zero, enc_cons, enc_cons, hb, hx]; rfl
  | y :: l, k + 1, x, hx => by
    rw [List.set_cons_succ, enc_cons, enc_cons, ← enc_set4 hf l k x hx, show (k + 1) * 4 = 4 + k * 4 by omega, set_app _ _ 4 _ _ (hf y), Nat.add_assoc, set_app _ _ 4 _ _ (hf y), Nat.add_assoc, set_app _ _ 4 _ _ (hf y), Nat.add_assoc, set_app _ _ 4 _ _ (hf y)]
theorem take_drop_set {β : Type} {m c : List β} {k : Nat} {x : β} (h : m.length = c.length) (hx : m[k]? = some x) : (m.take k ++ c.drop k).set k x = m.take (k + 1) ++ c.drop (k + 1) := by
  have hk : k < m.length := by
    rcases Nat.lt_or_ge k m.length with h | h
    · exact h
    · rw [List.getElem?_eq_none h] at hx; cases hx
  have hl : (m.take k).length = k := by rw [List.length_take]; omega
  rw [List.set_append, if_neg (by omega), hl, Nat.sub_self, List.drop_eq_getElem_cons (by omega), List.set_cons_zero]
  have e : m.take (k + 1) = m.take k ++ [x] := by
    rw [List.take_add_one, hx]; rfl
  rw [e, List.append_assoc]
  rfl
end
end Go.Proofs.YteminkohgagedaaGreat.Bk
namespace Go.Proofs.YteminkohgagedaaGreat.BkNil
open Go.RowKit Go.Proofs.YteminkohgagedaaGreat.Base Go.Proofs.YteminkohgagedaaGreat.Bk
set_option linter.unusedVariables false
set_option linter.unusedSimpArgs false

theorem still_Texts {X k : Nat} {cs : Array Value} {A : Option Addr} {w : World} (hX : Blk w X 39 cs) (h : cs[0]? = some (.slice A 0 k)) :
    Calls Tryz.prog 45 #[.pointer (some ⟨X, 0, none⟩)] w fun e w' => e = .returned (.bool true) ∧ w' = w := by
  have x0 := (hX.cell 0).trans h
  have x1 := hX.lt
  clear hX h
  go_enter Tryz.func45, Tryz.ntmps45
  go_wp2
  go_loopw [3] (fun q wr => q = .int .i64 0 ∧ wr = w) (fun _ _ => 0)
  case atStart => exact ⟨rfl, rfl⟩
  case round =>
    obtain ⟨rfl, rfl⟩ := hrel
    go_wp2
    go_ret
    exact ⟨rfl, rfl⟩

theorem put_Texts {X k : Nat} {cs : Array Value} {A : Option Addr} {w : World} (hX : Blk w X 39 cs) (h : cs[0]? = some (.slice A 0 k)) :
    Calls Tryz.prog 52 #[.pointer (some ⟨X, 0, none⟩)] w fun e w' => e = .returned (.tuple #[]) ∧ w' = w := by
  have x0 := (hX.cell 0).trans h
  have x1 := hX.lt
  clear hX h
  go_enter Tryz.func52, Tryz.ntmps52
  go_wp2
  go_loopw [2] (fun q wr => q = .int .i64 0 ∧ wr = w) (fun _ _ => 0)
  case atStart => exact ⟨rfl, rfl⟩
  case round =>
    obtain ⟨rfl, rfl⟩ := hrel
    go_wp2
    go_end0
    exact ⟨rfl, rfl⟩

theorem grow_Texts {X k : Nat} {cs : Array Value} {A : Option Addr} {w : World} (hX : Blk w X 39 cs) (h : cs[0]? = some (.slice A 0 k)) :
    Calls Tryz.prog 57 #[.pointer (some ⟨X, 0, none⟩)] w fun e w' => e = .returned (.slice none 0 0) ∧ w' = w := by
  have x0 := (hX.cell 0).trans h
  have x1 := hX.lt
  clear hX h
  go_enter Tryz.func57, Tryz.ntmps57
  go_wp2
  go_loopw [3, 4] (fun o q wr => o = .slice none 0 0 ∧ q = .int .i64 0 ∧ wr = w) (fun _ _ _ => 0)
  case atStart => exact ⟨rfl, rfl, rfl⟩
  case round =>
    obtain ⟨rfl, rfl, rfl⟩ := hrel
    go_wp2
    go_ret
    exact ⟨rfl, rfl⟩

theorem marked_Texts {k : Nat} {A : Option Addr} {w : World} :
    Calls Tryz.prog 63 #[.slice A 0 k] w fun e w' => e = .returned (.bool true) ∧ w' = w := by
  go_enter Tryz.func63, Tryz.ntmps63
  go_wp2
  go_loopw [3] (fun q wr => q = .int .i64 0 ∧ wr = w) (fun _ _ => 0)
  case atStart => exact ⟨rfl, rfl⟩
  case round =>
    obtain ⟨rfl, rfl⟩ := hrel
    go_wp2
    go_ret
    exact ⟨rfl, rfl⟩

theorem still_Ints {X k : Nat} {cs : Array Value} {A : Option Addr} {w : World} (hX : Blk w X 39 cs) (h : cs[2]? = some (.slice A 0 k)) :
    Calls Tryz.prog 46 #[.pointer (some ⟨X, 0, none⟩)] w fun e w' => e = .returned (.bool true) ∧ w' = w := by
  have x0 := (hX.cell 2).trans h
  have x1 := hX.lt
  clear hX h
  go_enter Tryz.func46, Tryz.ntmps46
  go_wp2
  go_loopw [3] (fun q wr => q = .int .i64 0 ∧ wr = w) (fun _ _ => 0)
  case atStart => exact ⟨rfl, rfl⟩
  case round =>
    obtain ⟨rfl, rfl⟩ := hrel
    go_wp2
    go_ret
    exact ⟨rfl, rfl⟩

theorem put_Ints {X k : Nat} {cs : Array Value} {A : Option Addr} {w : World} (hX : Blk w X 39 cs) (h : cs[2]? = some (.slice A 0 k)) :
    Calls Tryz.prog 53 #[.pointer (some ⟨X, 0, none⟩)] w fun e w' => e = .returned (.tuple #[]) ∧ w' = w := by
  have x0 := (hX.cell 2).trans h
  have x1 := hX.lt
  clear hX h
  go_enter Tryz.func53, Tryz.ntmps53
  go_wp2
  go_loopw [2] (fun q wr => q = .int .i64 0 ∧ wr = w) (fun _ _ => 0)
  case atStart => exact ⟨rfl, rfl⟩
  case round =>
    obtain ⟨rfl, rfl⟩ := hrel
    go_wp2
    go_end0
    exact ⟨rfl, rfl⟩

theorem grow_Ints {X k : Nat} {cs : Array Value} {A : Option Addr} {w : World} (hX : Blk w X 39 cs) (h : cs[2]? = some (.slice A 0 k)) :
    Calls Tryz.prog 58 #[.pointer (some ⟨X, 0, none⟩)] w fun e w' => e = .returned (.slice none 0 0) ∧ w' = w := by
  have x0 := (hX.cell 2).trans h
  have x1 := hX.lt
  clear hX h
  go_enter Tryz.func58, Tryz.ntmps58
  go_wp2
  go_loopw [3, 4] (fun o q wr => o = .slice none 0 0 ∧ q = .int .i64 0 ∧ wr = w) (fun _ _ _ => 0)
  case atStart => exact ⟨rfl, rfl, rfl⟩
  case round =>
    obtain ⟨rfl, rfl, rfl⟩ := hrel
    go_wp2
    go_ret
    exact ⟨rfl, rfl⟩

theorem marked_Ints {k : Nat} {A : Option Addr} {w : World} :
    Calls Tryz.prog 64 #[.slice A 0 k] w fun e w' => e = .returned (.bool true) ∧ w' = w := by
  go_enter Tryz.func64, Tryz.ntmps64
  go_wp2
  go_loopw [3] (fun q wr => q = .int .i64 0 ∧ wr = w) (fun _ _ => 0)
  case atStart => exact ⟨rfl, rfl⟩
  case round =>
    obtain ⟨rfl, rfl⟩ := hrel
    go_wp2
    go_ret
    exact ⟨rfl, rfl⟩

theorem still_Changes {X k : Nat} {cs : Array Value} {A : Option Addr} {w : World} (hX : Blk w X 39 cs) (h : cs[4]? = some (.slice A 0 k)) :
    Calls Tryz.prog 47 #[.pointer (some ⟨X, 0, none⟩)] w fun e w' => e = .returned (.bool true) ∧ w' = w := by
  have x0 := (hX.cell 4).trans h
  have x1 := hX.lt
  clear hX h
  go_enter Tryz.func47, Tryz.ntmps47
  go_wp2
  go_loopw [3] (fun q wr => q = .int .i64 0 ∧ wr = w) (fun _ _ => 0)
  case atStart => exact ⟨rfl, rfl⟩
  case round =>
    obtain ⟨rfl, rfl⟩ := hrel
    go_wp2
    go_ret
    exact ⟨rfl, rfl⟩

theorem put_Changes {X k : Nat} {cs : Array Value} {A : Option Addr} {w : World} (hX : Blk w X 39 cs) (h : cs[4]? = some (.slice A 0 k)) :
    Calls Tryz.prog 54 #[.pointer (some ⟨X, 0, none⟩)] w fun e w' => e = .returned (.tuple #[]) ∧ w' = w := by
  have x0 := (hX.cell 4).trans h
  have x1 := hX.lt
  clear hX h
  go_enter Tryz.func54, Tryz.ntmps54
  go_wp2
  go_loopw [2] (fun q wr => q = .int .i64 0 ∧ wr = w) (fun _ _ => 0)
  case atStart => exact ⟨rfl, rfl⟩
  case round =>
    obtain ⟨rfl, rfl⟩ := hrel
    go_wp2
    go_end0
    exact ⟨rfl, rfl⟩

theorem grow_Changes {X k : Nat} {cs : Array Value} {A : Option Addr} {w : World} (hX : Blk w X 39 cs) (h : cs[4]? = some (.slice A 0 k)) :
    Calls Tryz.prog 59 #[.pointer (some ⟨X, 0, none⟩)] w fun e w' => e = .returned (.slice none 0 0) ∧ w' = w := by
  have x0 := (hX.cell 4).trans h
  have x1 := hX.lt
  clear hX h
  go_enter Tryz.func59, Tryz.ntmps59
  go_wp2
  go_loopw [3, 4] (fun o q wr => o = .slice none 0 0 ∧ q = .int .i64 0 ∧ wr = w) (fun _ _ _ => 0)
  case atStart => exact ⟨rfl, rfl, rfl⟩
  case round =>
    obtain ⟨rfl, rfl, rfl⟩ := hrel
    go_wp2
    go_ret
    exact ⟨rfl, rfl⟩

theorem marked_Changes {k : Nat} {A : Option Addr} {w : World} :
    Calls Tryz.prog 65 #[.slice A 0 k] w fun e w' => e = .returned (.bool true) ∧ w' = w := by
  go_enter Tryz.func65, Tryz.ntmps65
  go_wp2
  go_loopw [3] (fun q wr => q = .int .i64 0 ∧ wr = w) (fun _ _ => 0)
  case atStart => exact ⟨rfl, rfl⟩
  case round =>
    obtain ⟨rfl, rfl⟩ := hrel
    go_wp2
    go_ret
    exact ⟨rfl, rfl⟩

theorem still_Entries {X k : Nat} {cs : Array Value} {A : Option Addr} {w : World} (hX : Blk w X 39 cs) (h : cs[6]? = some (.slice A 0 k)) :
    Calls Tryz.prog 48 #[.pointer (some ⟨X, 0, none⟩)] w fun e w' => e = .returned (.bool true) ∧ w' = w := by
  have x0 := (hX.cell 6).trans h
  have x1 := hX.lt
  clear hX h
  go_enter Tryz.func48, Tryz.ntmps48
  go_wp2
  go_loopw [3] (fun q wr => q = .int .i64 0 ∧ wr = w) (fun _ _ => 0)
  case atStart => exact ⟨rfl, rfl⟩
  case round =>
    obtain ⟨rfl, rfl⟩ := hrel
    go_wp2
    go_ret
    exact ⟨rfl, rfl⟩

theorem put_Entries {X k : Nat} {cs : Array Value} {A : Option Addr} {w : World} (hX : Blk w X 39 cs) (h : cs[6]? = some (.slice A 0 k)) :
    Calls Tryz.prog 55 #[.pointer (some ⟨X, 0, none⟩)] w fun e w' => e = .returned (.tuple #[]) ∧ w' = w := by
  have x0 := (hX.cell 6).trans h
  have x1 := hX.lt
  clear hX h
  go_enter Tryz.func55, Tryz.ntmps55
  go_wp2
  go_loopw [2] (fun q wr => q = .int .i64 0 ∧ wr = w) (fun _ _ => 0)
  case atStart => exact ⟨rfl, rfl⟩
  case round =>
    obtain ⟨rfl, rfl⟩ := hrel
    go_wp2
    go_end0
    exact ⟨rfl, rfl⟩

theorem grow_Entries {X k : Nat} {cs : Array Value} {A : Option Addr} {w : World} (hX : Blk w X 39 cs) (h : cs[6]? = some (.slice A 0 k)) :
    Calls Tryz.prog 60 #[.pointer (some ⟨X, 0, none⟩)] w fun e w' => e = .returned (.slice none 0 0) ∧ w' = w := by
  have x0 := (hX.cell 6).trans h
  have x1 := hX.lt
  clear hX h
  go_enter Tryz.func60, Tryz.ntmps60
  go_wp2
  go_loopw [3, 4] (fun o q wr => o = .slice none 0 0 ∧ q = .int .i64 0 ∧ wr = w) (fun _ _ _ => 0)
  case atStart => exact ⟨rfl, rfl, rfl⟩
  case round =>
    obtain ⟨rfl, rfl, rfl⟩ := hrel
    go_wp2
    go_ret
    exact ⟨rfl, rfl⟩

theorem marked_Entries {k : Nat} {A : Option Addr} {w : World} :
    Calls Tryz.prog 66 #[.slice A 0 k] w fun e w' => e = .returned (.bool true) ∧ w' = w := by
  go_enter Tryz.func66, Tryz.ntmps66
  go_wp2
  go_loopw [3] (fun q wr => q = .int .i64 0 ∧ wr = w) (fun _ _ => 0)
  case atStart => exact ⟨rfl, rfl⟩
  case round =>
    obtain ⟨rfl, rfl⟩ := hrel
    go_wp2
    go_ret
    exact ⟨rfl, rfl⟩

theorem still_Codes {X k : Nat} {cs : Array Value} {A : Option Addr} {w : World} (hX : Blk w X 39 cs) (h : cs[8]? = some (.slice A 0 k)) :
    Calls Tryz.prog 49 #[.pointer (some ⟨X, 0, none⟩)] w fun e w' => e = .returned (.bool true) ∧ w' = w := by
  have x0 := (hX.cell 8).trans h
  have x1 := hX.lt
  clear hX h
  go_enter Tryz.func49, Tryz.ntmps49
  go_wp2
  go_loopw [3] (fun q wr => q = .int .i64 0 ∧ wr = w) (fun _ _ => 0)
  case atStart => exact ⟨rfl, rfl⟩
  case round =>
    obtain ⟨rfl, rfl⟩ := hrel
    go_wp2
    go_ret
    exact ⟨rfl, rfl⟩

theorem put_Codes {X k : Nat} {cs : Array Value} {A : Option Addr} {w : World} (hX : Blk w X 39 cs) (h : cs[8]? = some (.slice A 0 k)) :
    Calls Tryz.prog 56 #[.pointer (some ⟨X, 0, none⟩)] w fun e w' => e = .returned (.tuple #[]) ∧ w' = w := by
  have x0 := (hX.cell 8).trans h
  have x1 := hX.lt
  clear hX h
  go_enter Tryz.func56, Tryz.ntmps56
  go_wp2
  go_loopw [2] (fun q wr => q = .int .i64 0 ∧ wr = w) (fun _ _ => 0)
  case atStart => exact ⟨rfl, rfl⟩
  case round =>
    obtain ⟨rfl, rfl⟩ := hrel
    go_wp2
    go_end0
    exact ⟨rfl, rfl⟩

theorem grow_Codes {X k : Nat} {cs : Array Value} {A : Option Addr} {w : World} (hX : Blk w X 39 cs) (h : cs[8]? = some (.slice A 0 k)) :
    Calls Tryz.prog 61 #[.pointer (some ⟨X, 0, none⟩)] w fun e w' => e = .returned (.slice none 0 0) ∧ w' = w := by
  have x0 := (hX.cell 8).trans h
  have x1 := hX.lt
  clear hX h
  go_enter Tryz.func61, Tryz.ntmps61
  go_wp2
  go_loopw [3, 4] (fun o q wr => o = .slice none 0 0 ∧ q = .int .i64 0 ∧ wr = w) (fun _ _ _ => 0)
  case atStart => exact ⟨rfl, rfl, rfl⟩
  case round =>
    obtain ⟨rfl, rfl, rfl⟩ := hrel
    go_wp2
    go_ret
    exact ⟨rfl, rfl⟩

theorem marked_Codes {k : Nat} {A : Option Addr} {w : World} :
    Calls Tryz.prog 67 #[.slice A 0 k] w fun e w' => e = .returned (.bool true) ∧ w' = w := by
  go_enter Tryz.func67, Tryz.ntmps67
  go_wp2
  go_loopw [3] (fun q wr => q = .int .i64 0 ∧ wr = w) (fun _ _ => 0)
  case atStart => exact ⟨rfl, rfl⟩
  case round =>
    obtain ⟨rfl, rfl⟩ := hrel
    go_wp2
    go_ret
    exact ⟨rfl, rfl⟩

theorem still_Nodes {X k : Nat} {cs : Array Value} {A : Option Addr} {w : World} (hX : Blk w X 39 cs) (h : cs[10]? = some (.slice A 0 k)) :
    Calls Tryz.prog 50 #[.pointer (some ⟨X, 0, none⟩)] w fun e w' => e = .returned (.bool true) ∧ w' = w := by
  have x0 := (hX.cell 10).trans h
  have x1 := hX.lt
  clear hX h
  go_enter Tryz.func50, Tryz.ntmps50
  go_wp2
  go_loopw [3] (fun q wr => q = .int .i64 0 ∧ wr = w) (fun _ _ => 0)
  case atStart => exact ⟨rfl, rfl⟩
  case round =>
    obtain ⟨rfl, rfl⟩ := hrel
    go_wp2
    go_ret
    exact ⟨rfl, rfl⟩

theorem put_Nodes {X k : Nat} {cs : Array Value} {A : Option Addr} {w : World} (hX : Blk w X 39 cs) (h : cs[10]? = some (.slice A 0 k)) :
    Calls Tryz.prog 51 #[.pointer (some ⟨X, 0, none⟩)] w fun e w' => e = .returned (.tuple #[]) ∧ w' = w := by
  have x0 := (hX.cell 10).trans h
  have x1 := hX.lt
  clear hX h
  go_enter Tryz.func51, Tryz.ntmps51
  go_wp2
  go_loopw [2] (fun q wr => q = .int .i64 0 ∧ wr = w) (fun _ _ => 0)
  case atStart => exact ⟨rfl, rfl⟩
  case round =>
    obtain ⟨rfl, rfl⟩ := hrel
    go_wp2
    go_end0
    exact ⟨rfl, rfl⟩

theorem grow_Nodes {X k : Nat} {cs : Array Value} {A : Option Addr} {w : World} (hX : Blk w X 39 cs) (h : cs[10]? = some (.slice A 0 k)) :
    Calls Tryz.prog 62 #[.pointer (some ⟨X, 0, none⟩)] w fun e w' => e = .returned (.slice none 0 0) ∧ w' = w := by
  have x0 := (hX.cell 10).trans h
  have x1 := hX.lt
  clear hX h
  go_enter Tryz.func62, Tryz.ntmps62
  go_wp2
  go_loopw [3, 4] (fun o q wr => o = .slice none 0 0 ∧ q = .int .i64 0 ∧ wr = w) (fun _ _ _ => 0)
  case atStart => exact ⟨rfl, rfl, rfl⟩
  case round =>
    obtain ⟨rfl, rfl, rfl⟩ := hrel
    go_wp2
    go_ret
    exact ⟨rfl, rfl⟩

theorem marked_Nodes {k : Nat} {A : Option Addr} {w : World} :
    Calls Tryz.prog 68 #[.slice A 0 k] w fun e w' => e = .returned (.bool true) ∧ w' = w := by
  go_enter Tryz.func68, Tryz.ntmps68
  go_wp2
  go_loopw [3] (fun q wr => q = .int .i64 0 ∧ wr = w) (fun _ _ => 0)
  case atStart => exact ⟨rfl, rfl⟩
  case round =>
    obtain ⟨rfl, rfl⟩ := hrel
    go_wp2
    go_ret
    exact ⟨rfl, rfl⟩

end Go.Proofs.YteminkohgagedaaGreat.BkNil