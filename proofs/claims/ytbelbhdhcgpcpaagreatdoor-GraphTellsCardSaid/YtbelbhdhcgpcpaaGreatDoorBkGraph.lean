/- A book that keeps graphs, behind three words: BookG.start, graph_add, bookg_apart. -/
import Derived.Test.YtbelbhdhcgpcpaaGreatDoorBkApGraph
namespace Go.Proofs.YtbelbhdhcgpcpaaGreatDoor.BkNodes
open Go.RowKit Go.Proofs.YtbelbhdhcgpcpaaGreatDoor.Base Go.Proofs.YtbelbhdhcgpcpaaGreatDoor.Bk Go.Proofs.YtbelbhdhcgpcpaaGreatDoor.Gr
set_option linter.unusedVariables false
set_option linter.unusedSimpArgs false

def bookNil : Array Value := #[.slice none 0 0, .slice none 0 0, .slice none 0 0, .slice none 0 0, .slice none 0 0, .slice none 0 0, .slice none 0 0, .slice none 0 0, .slice none 0 0, .slice none 0 0, .slice none 0 0, .slice none 0 0]
/-- What is kept: lists of numbers, lists of nodes. -/
structure Kept where
  vI : List Value
  cI : Nat → List Int
  vN : List Value
  cN : Nat → List NC
  d : Nat → List Nd
structure BGs (w0 w : World) (X : Nat) (K : Kept) (cs : Array Value) (wI : List Value) (AI BI : Option Addr) (kI lI : Nat) (wN : List Value) (c2 : Nat → List NC) (AN BN : Option Addr) (kN lN : Nat) : Prop where
  g : BG w X cs K.vI wI K.cI AI BI kI lI K.vN wN K.cN c2 K.d AN BN kN lN
  z : Mod (fun b => b = X) w0 w
  rI : ∀ b, (Value.slice AI K.vI.length kI).ownBlock = some b → w0.heap.size ≤ b
  sI : ∀ b, (Value.slice BI wI.length lI).ownBlock = some b → w0.heap.size ≤ b
  rN : ∀ b, (Value.slice AN K.vN.length kN).ownBlock = some b → w0.heap.size ≤ b
  sN : ∀ b, (Value.slice BN wN.length lN).ownBlock = some b → w0.heap.size ≤ b
  v : ∀ b, InG K.vI K.vN b → w0.heap.size ≤ b
def BookG (w0 w : World) (X : Nat) (K : Kept) : Prop := ∃ cs wI AI BI kI lI wN c2 AN BN kN lN, BGs w0 w X K cs wI AI BI kI lI wN c2 AN BN kN lN
theorem bel_modg {S : Nat → Prop} {w0 w w' : World} (h : Below w0.heap.size w0 w) (m : Mod S w w') (hS : ∀ b, S b → w0.heap.size ≤ b) : Below w0.heap.size w0 w' :=
  ⟨m.os.trans h.os, m.tape.trans h.tape, m.output.trans h.output, Nat.le_trans h.size m.size, fun i hi => (m.block i (Nat.lt_of_lt_of_le hi h.size) (fun hs => by have := hS i hs; omega)).trans (h.block i hi)⟩
theorem bel_modx {S : Nat → Prop} {w0 w w' : World} {X : Nat} (h : Mod (fun b => b = X) w0 w) (m : Mod S w w') (hS : ∀ b, S b → w0.heap.size ≤ b ∨ b = X) : Mod (fun b => b = X) w0 w' :=
  Mod.trans h m (fun b hb hs => by rcases hS b hs with h1 | h1; omega; exact h1)
def keptNil : Kept := ⟨[], fun _ => [], [], fun _ => [], fun _ => []⟩
theorem BookG.start {w : World} {X : Nat} (h : Blk w X 37 bookNil) : BookG w w X keptNil :=
  ⟨bookNil, [], none, none, 0, 0, [], fun _ => [], none, none, 0, 0,
    ⟨h, ⟨rfl, rfl, Kd.nil (by omega), Kd.nil (by omega), rfl, fun b hb => by simp [Value.ownBlock] at hb⟩, ⟨rfl, rfl, Kd.nil (by omega), Kd.nil (by omega), rfl, fun b hb => by simp [Value.ownBlock] at hb⟩, fun i hi => by simp [keptNil] at hi, fun i hi => by simp [keptNil] at hi, fun i hi h1 h2 h3 h4 => by
      rcases (by omega : i = 0 ∨ i = 1 ∨ i = 2 ∨ i = 3 ∨ i = 4 ∨ i = 5 ∨ i = 6 ∨ i = 7 ∨ i = 8 ∨ i = 9 ∨ i = 10 ∨ i = 11) with rfl | rfl | rfl | rfl | rfl | rfl | rfl | rfl | rfl | rfl | rfl | rfl <;> rfl⟩,
    Mod.refl _ _, fun b hb => by simp [Value.ownBlock] at hb, fun b hb => by simp [Value.ownBlock] at hb, fun b hb => by simp [Value.ownBlock] at hb, fun b hb => by simp [Value.ownBlock] at hb,
    fun b hb => by rcases hb with ⟨v, hv, _⟩ | ⟨v, hv, _⟩ <;> simp [keptNil] at hv⟩
theorem BookG.below {w0 w w' : World} {X : Nat} {K : Kept} (h : BookG w0 w X K) (hb : Below w.heap.size w w') : BookG w0 w' X K := by
  obtain ⟨cs, wI, AI, BI, kI, lI, wN, c2, AN, BN, kN, lN, h⟩ := h
  exact ⟨cs, wI, AI, BI, kI, lI, wN, c2, AN, BN, kN, lN, h.g.below hb, Mod.trans h.z (Mod.of_below (S := fun _ => False) hb) (fun _ _ h => h.elim), h.rI, h.sI, h.rN, h.sN, h.v⟩
theorem BookG.behind {w0 w : World} {X : Nat} {K : Kept} (h : BookG w0 w X K) : Mod (fun b => b = X) w0 w := by
  obtain ⟨cs, wI, AI, BI, kI, lI, wN, c2, AN, BN, kN, lN, h⟩ := h
  exact h.z
theorem BookG.lt {w0 w : World} {X : Nat} {K : Kept} (h : BookG w0 w X K) : ∀ b, InG K.vI K.vN b → b < w.heap.size := by
  obtain ⟨cs, wI, AI, BI, kI, lI, wN, c2, AN, BN, kN, lN, h⟩ := h
  rintro b (hb | hb)
  · exact h.g.i.kept.block b hb
  · exact h.g.n.kept.block b hb
theorem bookg_apart {w0 w : World} {X : Nat} {K : Kept} (h : BookG w0 w X K) (hvI : K.vI.length ≤ 250) (hvN : K.vN.length ≤ 250) (hlI : ∀ i, (K.cI i).length ≤ 90000) (hlN : ∀ i, (K.cN i).length ≤ 90000) (hx : ∀ i, ∀ x ∈ K.d i, x.slots.length ≤ 100000 ∧ x.words.length ≤ 100000) :
    Calls Tryz.prog 21 #[.pointer (some ⟨X, 0, none⟩)] w fun e w' => e = .returned (.bool true) ∧ Mod (fun b => b = X) w0 w' := by
  obtain ⟨cs, wI, AI, BI, kI, lI, wN, c2, AN, BN, kN, lN, h⟩ := h
  refine (apart_any X cs K.vI wI K.cI AI BI kI lI K.vN wN K.cN c2 K.d AN BN kN lN w h.g hvI hvN hlI hlN hx).mono ?_
  rintro e w' ⟨rfl, hm⟩
  exact ⟨rfl, bel_modx h.z hm (fun b hb => .inl (h.v b hb))⟩

/-! ### one list of numbers more, one list of nodes more -/
theorem ints_add {w0 w : World} {X : Nat} {K : Kept} (h : BookG w0 w X K) (A : Option Addr) (q : Nat) (l : List Int) (hv : w.ownsRow 0 3 1 (.slice A l.length q) l.length (enc ic l))
    (hn : ∀ b, (Value.slice A l.length q).ownBlock = some b → ¬ InG K.vI K.vN b) (hA : ∀ b, (Value.slice A l.length q).ownBlock = some b → w0.heap.size ≤ b) (hl : l.length ≤ 100000) (hm : K.vI.length < 250) :
    Calls Tryz.prog 28 #[.pointer (some ⟨X, 0, none⟩), .slice A l.length q] w fun e w' => e = .returned (.tuple #[]) ∧ BookG w0 w' X { K with vI := K.vI ++ [.slice A l.length q], cI := BkInts.more K.cI K.vI.length l } ∧
      (∃ S : Nat → Prop, Mod S w w' ∧ ∀ b, S b → NotInt w b ∧ (∀ lo n v xs, w.ownsRow lo 45 2 v n xs → v.ownBlock ≠ some b) ∧ ∀ cs', ¬ Blk w b 25 cs') := by
  obtain ⟨cs, wI, AI, BI, kI, lI, wN, c2, AN, BN, kN, lN, h⟩ := h
  refine (BkInts.add_any X cs K.vI wI K.cI AI BI kI lI A q l w h.g.blk h.g.i hv (fun b hb hi => hn b hb (.inl hi)) hl hm).mono ?_
  rintro e w' ⟨rfl, AI', BI', kI', lI', v2, b1, b2, b3, b4, b5⟩
  have hni : ∀ b, (b = X ∨ (Value.slice AI K.vI.length kI).ownBlock = some b ∨ (Value.slice BI wI.length lI).ownBlock = some b) → NotInt w b := fun b hb => by
    rcases hb with rfl | hb | hb
    · exact NotInt.of_blk h.g.blk (by decide)
    · exact NotInt.of_own h.g.i.kept.row (by decide) hb
    · exact NotInt.of_own h.g.i.was_.row (by decide) hb
  have hnn : ∀ b, (b = X ∨ (Value.slice AI K.vI.length kI).ownBlock = some b ∨ (Value.slice BI wI.length lI).ownBlock = some b) → ∀ lo n v xs, w.ownsRow lo 45 2 v n xs → v.ownBlock ≠ some b := fun b hb lo n v xs ho hvb => by
    rcases hb with rfl | hb | hb
    · exact own_blk_ne ho h.g.blk (by decide) hvb
    · exact own_type ho h.g.i.kept.row (by decide) b hvb hb
    · exact own_type ho h.g.i.was_.row (by decide) b hvb hb
  have hnr : ∀ b, (b = X ∨ (Value.slice AI K.vI.length kI).ownBlock = some b ∨ (Value.slice BI wI.length lI).ownBlock = some b) → ∀ lo n v xs, w.ownsRow lo 23 1 v n xs → v.ownBlock ≠ some b := fun b hb lo n v xs ho hvb => by
    rcases hb with rfl | hb | hb
    · exact own_blk_ne ho h.g.blk (by decide) hvb
    · exact own_type ho h.g.i.kept.row (by decide) b hvb hb
    · exact own_type ho h.g.i.was_.row (by decide) b hvb hb
  have hkd : ∀ {vK : Value} {vs : List Value} {c : Nat → List NC}, kd w vK vs c → kd w' vK vs c := fun {vK vs c} hk =>
    Kd.mod hk b3 (fun b hb hS => hnr b hS _ _ _ _ hk.row hb) (fun b ⟨v, hv, hvb⟩ hS => by
      obtain ⟨i, hi⟩ := List.mem_iff_getElem?.1 hv
      exact hnn b hS _ _ _ _ (hk.own i v hi) hvb)
  have hnb : ∀ b, (b = X ∨ (Value.slice AI K.vI.length kI).ownBlock = some b ∨ (Value.slice BI wI.length lI).ownBlock = some b) → ∀ cs', ¬ Blk w b 25 cs' := fun b hb cs' hc => by
    rcases hb with rfl | hb | hb
    · exact Blk.ne_ hc h.g.blk (by decide) rfl
    · exact own_blk_ne h.g.i.kept.row hc (by decide) hb
    · exact own_blk_ne h.g.i.was_.row hc (by decide) hb
  have hz : ∀ b, (b = X ∨ (Value.slice AI K.vI.length kI).ownBlock = some b ∨ (Value.slice BI wI.length lI).ownBlock = some b) → w0.heap.size ≤ b ∨ b = X := fun b hb => by
    rcases hb with rfl | hb | hb
    · exact .inr rfl
    · exact .inl (h.rI b hb)
    · exact .inl (h.sI b hb)
  have hcs : ∀ i, i ≠ 2 → i ≠ 3 → ((cs.setIfInBounds 2 (.slice AI' (K.vI.length + 1) kI')).setIfInBounds 3 (.slice BI' (wI.length + 1) lI'))[i]? = cs[i]? := fun i h1 h2 => by
    rw [Array.getElem?_setIfInBounds_ne (by omega), Array.getElem?_setIfInBounds_ne (by omega)]
  refine ⟨rfl, ⟨_, _, AI', BI', kI', lI', wN, c2, AN, BN, kN, lN, ⟨b1, b2, ⟨?_, ?_, hkd h.g.n.kept, hkd h.g.n.was_, h.g.n.len, h.g.n.rows⟩, fun i hi => (h.g.deep i hi).mod b3 (fun b hb => .inr (hni b hb)), fun i hi => (h.g.deep2 i hi).mod b3 (fun b hb => .inr (hni b hb)), fun i h0 h1 h2 h3 h4 => ?_⟩, bel_modx h.z b3 hz, fun b hb => ?_, fun b hb => ?_, h.rN, h.sN, fun b hb => ?_⟩, _, b3, fun b hb => ⟨hni b hb, hnn b hb, hnb b hb⟩⟩
  · rw [hcs 10 (by decide) (by decide)]; exact h.g.n.k0
  · rw [hcs 11 (by decide) (by decide)]; exact h.g.n.k1
  · rw [hcs i h1 h2]; exact h.g.rest i h0 h1 h2 h3 h4
  · simp only [List.length_append, List.length_singleton] at hb
    rcases b4 b hb with h' | h'
    · exact h.rI b h'
    · exact Nat.le_trans h.z.size h'
  · simp only [List.length_append, List.length_singleton] at hb
    rcases b5 b hb with h' | h'
    · exact h.sI b h'
    · exact Nat.le_trans h.z.size h'
  · rcases hb with ⟨v, hv, hb⟩ | hb
    · rcases List.mem_append.1 hv with hv | hv
      · exact h.v b (.inl ⟨v, hv, hb⟩)
      · rw [List.mem_singleton.1 hv] at hb
        exact hA b hb
    · exact h.v b (.inr hb)
def moreD (d : Nat → List Nd) (m : Nat) (l : List Nd) (i : Nat) : List Nd := if i = m then l else d i
theorem nodes_add {w0 w : World} {X : Nat} {K : Kept} (h : BookG w0 w X K) (A : Option Addr) (q : Nat) (l : List NC) (xs : List Nd) (hdp : Deeps w 0 l xs) (hxs : ∀ x ∈ xs, x.slots.length ≤ 100000 ∧ x.words.length ≤ 100000)
    (hv : w.ownsRow 0 45 2 (.slice A l.length q) l.length (enc nf l))
    (hn : ∀ b, (Value.slice A l.length q).ownBlock = some b → ¬ InG K.vI K.vN b) (hA : ∀ b, (Value.slice A l.length q).ownBlock = some b → w0.heap.size ≤ b) (hl : l.length ≤ 100000) (hm : K.vN.length < 250) :
    Calls Tryz.prog 29 #[.pointer (some ⟨X, 0, none⟩), .slice A l.length q] w fun e w' => e = .returned (.tuple #[]) ∧ BookG w0 w' X { K with vN := K.vN ++ [.slice A l.length q], cN := more K.cN K.vN.length l, d := moreD K.d K.vN.length xs } ∧
      (∃ S : Nat → Prop, Mod S w w' ∧ ∀ b, S b → NotInt w b ∧ (∀ lo n v xs, w.ownsRow lo 45 2 v n xs → v.ownBlock ≠ some b) ∧ ∀ cs', ¬ Blk w b 25 cs') := by
  obtain ⟨cs, wI, AI, BI, kI, lI, wN, c2, AN, BN, kN, lN, h⟩ := h
  refine (add_any X cs K.vN wN K.cN c2 AN BN kN lN A q l w h.g.blk h.g.n xs hdp hxs hv (fun b hb hi => hn b hb (.inr hi)) hl hm).mono ?_
  rintro e w' ⟨rfl, AN', BN', kN', lN', v2, l2, b1, b2, bd, b3, b4, b5⟩
  have hni : ∀ b, (b = X ∨ (Value.slice AN K.vN.length kN).ownBlock = some b ∨ (Value.slice BN wN.length lN).ownBlock = some b) → NotInt w b := fun b hb => by
    rcases hb with rfl | hb | hb
    · exact NotInt.of_blk h.g.blk (by decide)
    · exact NotInt.of_own h.g.n.kept.row (by decide) hb
    · exact NotInt.of_own h.g.n.was_.row (by decide) hb
  have hnn : ∀ b, (b = X ∨ (Value.slice AN K.vN.length kN).ownBlock = some b ∨ (Value.slice BN wN.length lN).ownBlock = some b) → ∀ lo n v xs, w.ownsRow lo 3 1 v n xs → v.ownBlock ≠ some b := fun b hb lo n v xs ho hvb => by
    rcases hb with rfl | hb | hb
    · exact own_blk_ne ho h.g.blk (by decide) hvb
    · exact own_type ho h.g.n.kept.row (by decide) b hvb hb
    · exact own_type ho h.g.n.was_.row (by decide) b hvb hb
  have hnr : ∀ b, (b = X ∨ (Value.slice AN K.vN.length kN).ownBlock = some b ∨ (Value.slice BN wN.length lN).ownBlock = some b) → ∀ lo n v xs, w.ownsRow lo 22 1 v n xs → v.ownBlock ≠ some b := fun b hb lo n v xs ho hvb => by
    rcases hb with rfl | hb | hb
    · exact own_blk_ne ho h.g.blk (by decide) hvb
    · exact own_type ho h.g.n.kept.row (by decide) b hvb hb
    · exact own_type ho h.g.n.was_.row (by decide) b hvb hb
  have hnm : ∀ b, (b = X ∨ (Value.slice AN K.vN.length kN).ownBlock = some b ∨ (Value.slice BN wN.length lN).ownBlock = some b) → ∀ lo n v xs, w.ownsRow lo 45 2 v n xs → v.ownBlock ≠ some b := fun b hb lo n v xs ho hvb => by
    rcases hb with rfl | hb | hb
    · exact own_blk_ne ho h.g.blk (by decide) hvb
    · exact own_type ho h.g.n.kept.row (by decide) b hvb hb
    · exact own_type ho h.g.n.was_.row (by decide) b hvb hb
  have hkd : ∀ {vK : Value} {vs : List Value} {c : Nat → List Int}, BkInts.kd w vK vs c → BkInts.kd w' vK vs c := fun {vK vs c} hk =>
    Kd.mod hk b3 (fun b hb hS => hnr b hS _ _ _ _ hk.row hb) (fun b ⟨v, hv, hvb⟩ hS => by
      obtain ⟨i, hi⟩ := List.mem_iff_getElem?.1 hv
      exact hnn b hS _ _ _ _ (hk.own i v hi) hvb)
  have hnb : ∀ b, (b = X ∨ (Value.slice AN K.vN.length kN).ownBlock = some b ∨ (Value.slice BN wN.length lN).ownBlock = some b) → ∀ cs', ¬ Blk w b 25 cs' := fun b hb cs' hc => by
    rcases hb with rfl | hb | hb
    · exact Blk.ne_ hc h.g.blk (by decide) rfl
    · exact own_blk_ne h.g.n.kept.row hc (by decide) hb
    · exact own_blk_ne h.g.n.was_.row hc (by decide) hb
  have hz : ∀ b, (b = X ∨ (Value.slice AN K.vN.length kN).ownBlock = some b ∨ (Value.slice BN wN.length lN).ownBlock = some b) → w0.heap.size ≤ b ∨ b = X := fun b hb => by
    rcases hb with rfl | hb | hb
    · exact .inr rfl
    · exact .inl (h.rN b hb)
    · exact .inl (h.sN b hb)
  have hcs : ∀ i, i ≠ 10 → i ≠ 11 → ((cs.setIfInBounds 10 (.slice AN' (K.vN.length + 1) kN')).setIfInBounds 11 (.slice BN' (wN.length + 1) lN'))[i]? = cs[i]? := fun i h1 h2 => by
    rw [Array.getElem?_setIfInBounds_ne (by omega), Array.getElem?_setIfInBounds_ne (by omega)]
  have hwl := h.g.n.len
  refine ⟨rfl, ⟨_, wI, AI, BI, kI, lI, _, _, AN', BN', kN', lN', ⟨b1, ⟨?_, ?_, hkd h.g.i.kept, hkd h.g.i.was_, h.g.i.len, h.g.i.rows⟩, b2, fun i hi => ?_, fun i hi => ?_, fun i h0 h1 h2 h3 h4 => ?_⟩, bel_modx h.z b3 hz, h.rI, h.sI, fun b hb => ?_, fun b hb => ?_, fun b hb => ?_⟩, _, b3, fun b hb => ⟨hni b hb, hnm b hb, hnb b hb⟩⟩
  · rw [hcs 2 (by decide) (by decide)]; exact h.g.i.k0
  · rw [hcs 3 (by decide) (by decide)]; exact h.g.i.k1
  · simp only [List.length_append, List.length_singleton] at hi
    simp only [more, moreD]
    split
    · exact hdp.mod b3 (fun b hb => .inr (hni b hb))
    · exact (h.g.deep i (by omega)).mod b3 (fun b hb => .inr (hni b hb))
  · simp only [List.length_append, List.length_singleton] at hi
    simp only [more, moreD, hwl]
    split
    · exact bd.low (Nat.zero_le _)
    · exact (h.g.deep2 i (by omega)).mod b3 (fun b hb => .inr (hni b hb))
  · rw [hcs i h3 h4]; exact h.g.rest i h0 h1 h2 h3 h4
  · simp only [List.length_append, List.length_singleton] at hb
    rcases b4 b hb with h' | h'
    · exact h.rN b h'
    · exact Nat.le_trans h.z.size h'
  · simp only [List.length_append, List.length_singleton] at hb
    rcases b5 b hb with h' | h'
    · exact h.sN b h'
    · exact Nat.le_trans h.z.size h'
  · rcases hb with hb | ⟨v, hv, hb⟩
    · exact h.v b (.inl hb)
    · rcases List.mem_append.1 hv with hv | hv
      · exact h.v b (.inr ⟨v, hv, hb⟩)
      · rw [List.mem_singleton.1 hv] at hb
        exact hA b hb
/-- Lists of numbers, of nodes, and boxes of graphs are what they were. -/
structure Kind (w w' : World) : Prop where
  ints : ∀ lo n v xs, w.ownsRow lo 3 1 v n xs → w'.ownsRow lo 3 1 v n xs
  nodes : ∀ lo n v xs, w.ownsRow lo 45 2 v n xs → w'.ownsRow lo 45 2 v n xs
  box : ∀ b cs, Blk w b 25 cs → Blk w' b 25 cs
theorem Kind.trans {w w1 w2 : World} (h : Kind w w1) (k : Kind w1 w2) : Kind w w2 := ⟨fun _ _ _ _ ho => k.ints _ _ _ _ (h.ints _ _ _ _ ho), fun _ _ _ _ ho => k.nodes _ _ _ _ (h.nodes _ _ _ _ ho), fun _ _ hb => k.box _ _ (h.box _ _ hb)⟩
theorem Kind.of_below {w w' : World} (h : Below w.heap.size w w') : Kind w w' := ⟨fun _ _ _ _ ho => own_below ho h, fun _ _ _ _ ho => own_below ho h, fun _ _ hb => hb.below h hb.lt⟩
theorem Kind.of_mod {S : Nat → Prop} {w w' : World} (hm : Mod S w w') (hs : ∀ b, S b → NotInt w b ∧ (∀ lo n v xs, w.ownsRow lo 45 2 v n xs → v.ownBlock ≠ some b) ∧ ∀ cs', ¬ Blk w b 25 cs') : Kind w w' :=
  ⟨fun _ _ _ _ ho => own_mod ho hm (fun b hb hS => (hs b hS).1 _ _ _ _ ho hb), fun _ _ _ _ ho => own_mod ho hm (fun b hb hS => (hs b hS).2.1 _ _ _ _ ho hb), fun _ _ hb => hb.mod hm (fun hS => (hs _ hS).2.2 _ hb)⟩
theorem Kind.deeps {w w' : World} (h : Kind w w') {lo : Nat} {ps : List NC} {xs : List Nd} (hd : Deeps w lo ps xs) : Deeps w' lo ps xs :=
  ⟨hd.1, fun i p x hp hx => by
    obtain ⟨⟨k1, A, c, e1, o1⟩, ⟨k2, B, d, e2, o2⟩⟩ := hd.2 i p x hp hx
    exact ⟨⟨k1, A, c, e1, h.ints _ _ _ _ o1⟩, ⟨k2, B, d, e2, h.ints _ _ _ _ o2⟩⟩⟩
/-- The kept, with one graph more. -/
def Kept.graph (K : Kept) (r n : Value) (l : List Int) (ps : List NC) (xs : List Nd) : Kept :=
  ⟨K.vI ++ [r], BkInts.more K.cI K.vI.length l, K.vN ++ [n], more K.cN K.vN.length ps, moreD K.d K.vN.length xs⟩
theorem graph_add {w0 w : World} {X : Nat} {K : Kept} (h : BookG w0 w X K) (A D : Option Addr) (c d : Nat) (l : List Int) (ps : List NC) (xs : List Nd) (hdp : Deeps w 0 ps xs) (hxs : ∀ x ∈ xs, x.slots.length ≤ 100000 ∧ x.words.length ≤ 100000)
    (hv : w.ownsRow 0 3 1 (.slice A l.length c) l.length (enc ic l)) (hv2 : w.ownsRow 0 45 2 (.slice D ps.length d) ps.length (enc nf ps))
    (hn : ∀ b, (Value.slice A l.length c).ownBlock = some b → ¬ InG K.vI K.vN b) (hn2 : ∀ b, (Value.slice D ps.length d).ownBlock = some b → ¬ InG K.vI K.vN b)
    (hA : ∀ b, (Value.slice A l.length c).ownBlock = some b → w0.heap.size ≤ b) (hA2 : ∀ b, (Value.slice D ps.length d).ownBlock = some b → w0.heap.size ≤ b) (hl : l.length ≤ 100000) (hl2 : ps.length ≤ 100000) (hm : K.vI.length < 250) (hm2 : K.vN.length < 250) :
    Calls Tryz.prog 12 #[.pointer (some ⟨X, 0, none⟩), .agg #[.slice A l.length c, .slice D ps.length d]] w fun e w' => e = .returned (.tuple #[]) ∧ BookG w0 w' X (K.graph (.slice A l.length c) (.slice D ps.length d) l ps xs) ∧ Kind w w' := by
  have HB := Lib.hid (below_1 w (.cells #[.slice A l.length c, .slice D ps.length d] 25))
  have HG := Lib.hid (Blk.new w 25 #[.slice A l.length c, .slice D ps.length d])
  have K1 := Lib.hid (ints_add (h.below HB.out) A c l (own_below hv HB.out) hn hA hl hm)
  have HDP := Lib.hid (hdp.below HB.out)
  have HV2 := Lib.hid (own_below hv2 HB.out)
  have HN2 := Lib.hid hn2
  have HX := Lib.hid hxs
  have HV := Lib.hid (own_below hv HB.out)
  have HL := Lib.hid h.lt
  clear h hdp hxs hv hv2 hn hn2
  go_enter Tryz.func12, Tryz.ntmps12
  go_wp2_with (first
    | (go_at_call 28
       refine K1.out.mono ?_
       rintro e w2 ⟨rfl, hb2, S, hm2', hs⟩
       have HB2 := Lib.hid hb2
       have HK2 := Lib.hid (Kind.of_mod hm2' hs)
       have HG2 := Lib.hid (HG.out.mod hm2' (fun hS => (hs _ hS).2.2 _ HG.out))
       have HD2 := Lib.hid (HDP.out.mod hm2' (fun b hS => .inr (hs b hS).1))
       have HV3 := Lib.hid (own_mod HV2.out hm2' (fun b hb hS => (hs b hS).2.1 _ _ _ _ HV2.out hb))
       have c0 := HG2.out.cell 1
       have cl := HG2.out.lt
       clear hb2 hm2' hs)
    | (go_at_call 29
       refine (nodes_add HB2.out D d ps xs HD2.out HX.out HV3.out (fun b hb hi => ?_) hA2 hl2 hm2).mono ?_
       · rcases hi with ⟨v, hv, hvb⟩ | hi
         · rcases List.mem_append.1 hv with hv | hv
           · exact HN2.out b hb (.inl ⟨v, hv, hvb⟩)
           · rw [List.mem_singleton.1 hv] at hvb
             exact own_type HV.out HV2.out (by decide) b hvb hb
         · exact HN2.out b hb (.inr hi)
       rintro e w3 ⟨rfl, hb3, S3, hm3', hs3⟩
       have HB3 := Lib.hid hb3
       have HK3 := Lib.hid (Kind.of_mod hm3' hs3)
       clear hb3 hm3' hs3)
    | fail)
  exact ⟨rfl, _, by kernel_rfl, rfl, HB3.out, (Kind.of_below HB.out).trans (HK2.out.trans HK3.out)⟩
end Go.Proofs.YtbelbhdhcgpcpaaGreatDoor.BkNodes
