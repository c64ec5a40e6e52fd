/- What graph.Number holds while it goes over the order. -/
import Derived.Test.YteminkohgagedaaGreatQVerPlain
import Derived.Test.YteminkohgagedaaGreatQGrClone
import Derived.IntWalk
import Derived.Deep.RegionLaw
namespace Go.Proofs.YteminkohgagedaaGreat.Gr
open Go.RowKit Go.Proofs.YteminkohgagedaaGreat.Base
set_option linter.unusedVariables false
set_option linter.unusedSimpArgs false

/-- The new number of a node; 0: not met yet. -/
def placeOf (o : List Int) (a : Int) : Int := if a ∈ o then (o.findIdx (· == a) : Int) + 1 else 0
def meet1 (o : List Int) (a : Int) : List Int × Int :=
  if a = 0 then (o, 0) else if a ∈ o then (o, placeOf o a) else (o ++ [a], (o.length : Int) + 1)
def meet (o : List Int) : List Int → List Int × List Int
  | [] => (o, [])
  | a :: l => ((meet (meet1 o a).1 l).1, (meet1 o a).2 :: (meet (meet1 o a).1 l).2)
theorem meet_snoc (o l : List Int) (a : Int) : meet o (l ++ [a]) = ((meet1 (meet o l).1 a).1, (meet o l).2 ++ [(meet1 (meet o l).1 a).2]) := by
  induction l generalizing o with
  | nil => simp [meet]
  | cons b l ih => simp [meet, ih]
theorem meet_len (o l : List Int) : (meet o l).2.length = l.length := by
  induction l generalizing o with
  | nil => rfl
  | cons b l ih => simp [meet, ih]

theorem placeOf_zero {o : List Int} {a : Int} : placeOf o a = 0 ↔ a ∉ o := by
  unfold placeOf
  by_cases h : a ∈ o
  · simp only [h, if_true, not_true, iff_false]; omega
  · simp [h]
theorem placeOf_snoc {o : List Int} {a : Int} (h : a ∉ o) (b : Int) : placeOf (o ++ [a]) b = if b = a then (o.length : Int) + 1 else placeOf o b := by
  unfold placeOf
  by_cases hb : b = a
  · subst hb
    have : o.findIdx (· == b) = o.length := by
      rw [List.findIdx_eq_length]
      intro x hx
      simp only [beq_eq_false_iff_ne, ne_eq]
      rintro rfl
      exact h hx
    simp [List.findIdx_append, this]
  · simp only [hb, if_false, List.mem_append, List.mem_singleton, or_false]
    by_cases hm : b ∈ o
    · have hlt : o.findIdx (· == b) < o.length := List.findIdx_lt_length_of_exists ⟨b, hm, by simp⟩
      simp [hm, List.findIdx_append, hlt]
    · simp [hm]

/-- An order of nodes: each once, and there. -/
def Ord (o : List Int) (n : Nat) : Prop := o.Nodup ∧ ∀ a ∈ o, 1 ≤ a ∧ a ≤ n
theorem ord_nil (n : Nat) : Ord [] n := ⟨List.nodup_nil, fun a h => by cases h⟩
theorem ord_len {o : List Int} {n : Nat} (h : Ord o n) : o.length ≤ n := by
  induction n generalizing o with
  | zero =>
    cases o with
    | nil => simp
    | cons a o => have := h.2 a (by simp); omega
  | succ n ih =>
    have h1 : Ord (o.erase ((n : Int) + 1)) n := ⟨h.1.erase _, fun a ha => by
      have := (h.1.mem_erase_iff).1 ha
      have h2 := h.2 a this.2
      have h3 := this.1
      omega⟩
    have h2 := ih h1
    have h3 := List.length_erase (a := (n : Int) + 1) (l := o)
    split at h3 <;> omega
theorem ord_meet1 {o : List Int} {n : Nat} {a : Int} (h : Ord o n) (h0 : 0 ≤ a) (h1 : a ≤ n) : Ord (meet1 o a).1 n := by
  unfold meet1
  by_cases ha : a = 0
  · simp [ha, h]
  · by_cases hm : a ∈ o
    · simp [ha, hm, h]
    · simp only [ha, hm, if_false]
      refine ⟨List.nodup_append.2 ⟨h.1, by simp, ?_⟩, ?_⟩
      · intro x hx y hy
        simp at hy
        subst hy
        rintro rfl
        exact hm hx
      · intro x hx
        simp at hx
        rcases hx with hx | rfl
        · exact h.2 x hx
        · omega
theorem named_cons {a : Int} {l : List Int} {n : Int} : named (a :: l) n = true ↔ (0 ≤ a ∧ a ≤ n) ∧ named l n = true := by
  simp [named, and_assoc]
theorem named_get {l : List Int} {n : Int} (h : named l n = true) (i : Nat) (hi : i < l.length) : 0 ≤ l[i] ∧ l[i] ≤ n := by
  have := List.all_eq_true.1 h l[i] (List.getElem_mem hi)
  simpa using this
theorem ord_meet {o l : List Int} {n : Nat} (h : Ord o n) (hl : named l n = true) : Ord (meet o l).1 n := by
  induction l generalizing o with
  | nil => exact h
  | cons a l ih =>
    rw [named_cons] at hl
    exact ih (ord_meet1 h hl.1.1 hl.1.2) hl.2
theorem named_take {l : List Int} {n : Int} (h : named l n = true) (k : Nat) : named (l.take k) n = true := by
  rw [named, List.all_eq_true] at *
  exact fun x hx => h x (List.mem_of_mem_take hx)

/-- All new numbers. -/
def places (o : List Int) (n : Nat) : Array Value := ((List.range (n + 1)).map fun i : Nat => Value.int .i64 (placeOf o (i : Int))).toArray
theorem places_get (o : List Int) (n : Nat) (a : Int) (h0 : 0 ≤ a) (h1 : a ≤ n) : (places o n)[a.toNat]? = some (.int .i64 (placeOf o a)) := by
  have : ((a.toNat : Nat) : Int) = a := by omega
  have h2 : a.toNat < n + 1 := by omega
  simp [places, h2, this]
theorem places_set (o : List Int) (n : Nat) (a : Int) (h0 : 0 ≤ a) (h1 : a ≤ n) (hm : a ∉ o) : (places o n).setIfInBounds a.toNat (.int .i64 ((o.length : Int) + 1)) = places (o ++ [a]) n := by
  apply Array.ext
  · simp [places]
  · intro i hi1 hi2
    have hi : i < n + 1 := by simpa [places] using hi2
    rw [Array.getElem_setIfInBounds]
    · simp only [places, List.getElem_toArray, List.getElem_map, List.getElem_range, placeOf_snoc hm]
      by_cases e : a.toNat = i
      · have : (i : Int) = a := by omega
        simp [e, this]
      · have : (i : Int) ≠ a := by omega
        simp [e, this]
    · simpa [places] using hi
theorem places_nil (n : Nat) : places [] n = (List.replicate (n + 1) (Value.int .i64 0)).toArray := by
  unfold places
  congr 1
  apply List.ext_getElem
  · simp
  · intro i h1 h2
    simp [placeOf]

/-- The walk over the order: fuel, place, what was met, what was built. -/
def nodeAt (g : Gr) (a : Int) : Nd := g.nodes.getD (a.toNat - 1) ⟨[], []⟩
def canonGo (g : Gr) : Nat → Nat → List Int → List Nd → List Nd
  | 0, _, _, out => out
  | f + 1, i, o, out =>
    if h : i < o.length then canonGo g f (i + 1) (meet o (nodeAt g o[i]).slots).1 (out ++ [⟨(meet o (nodeAt g o[i]).slots).2, (nodeAt g o[i]).words⟩]) else out
def number (g : Gr) : Gr := ⟨(meet [] g.roots).2, canonGo g (g.nodes.length + 1) 0 (meet [] g.roots).1 []⟩
def canon (g : Gr) : Gr := if right g then number g else g
def cells (l : List Nd) : Nat := (l.map fun x => 1 + x.slots.length + x.words.length).sum
def size (g : Gr) : Nat := if right g then cells (canon g).nodes else 0
def same (g h : Gr) : Bool := right g && right h && decide (canon g = canon h)

end Go.Proofs.YteminkohgagedaaGreat.Gr
namespace Go.Proofs.YteminkohgagedaaGreat.Gr
open Go.RowKit Go.Proofs.YteminkohgagedaaGreat.Base
set_option linter.unusedVariables false
set_option linter.unusedSimpArgs false

/-- What a meeter knows. -/
structure Met (w : World) (base p q n : Nat) (vO : Value) (o : List Int) : Prop where
  blk : Blk w p 115 #[.slice (some ⟨q, 0, none⟩) (n + 1) (n + 1), vO]
  plc : Blk w q 3 (places o n)
  own : w.ownsRow base 3 1 vO o.length (enc ic o)
  apart : vO.ownBlock ≠ some q
/-- What a meeting may change. -/
def Turns (p q : Nat) (vO : Value) (k : Nat) : Prop := k = p ∨ k = q ∨ vO.ownBlock = some k

theorem met_cells {w : World} {base p q n : Nat} {vO : Value} {o : List Int} (h : Met w base p q n vO o) (a : Int) (h0 : 0 ≤ a) (h1 : a ≤ n) :
    w.cell? ⟨p, 0, none⟩ = some (.slice (some ⟨q, 0, none⟩) (n + 1) (n + 1)) ∧ w.cell? ⟨p, 1, none⟩ = some vO ∧ w.cell? ⟨q, a.toNat, none⟩ = some (.int .i64 (placeOf o a)) := by
  refine ⟨?_, ?_, ?_⟩
  · have := h.blk.cell 0; simpa using this
  · have := h.blk.cell 1; simpa using this
  · rw [h.plc.cell, places_get o n a h0 h1]

/-- The round's own row. -/
def outs (o l : List Int) (k : Nat) : Array Value := ((meet o (l.take k)).2.map (Value.int .i64) ++ List.replicate (l.length - k) (Value.int .i64 0)).toArray
theorem take_succ {l : List Int} {k : Nat} (h : k < l.length) : l.take (k + 1) = l.take k ++ [l[k]] := List.take_succ_eq_append_getElem h
theorem meet_take (o l : List Int) (k : Nat) (h : k < l.length) : meet o (l.take (k + 1)) = ((meet1 (meet o (l.take k)).1 l[k]).1, (meet o (l.take k)).2 ++ [(meet1 (meet o (l.take k)).1 l[k]).2]) := by
  rw [take_succ h, meet_snoc]
theorem outs_size (o l : List Int) (k : Nat) (h : k ≤ l.length) : (outs o l k).size = l.length := by
  simp [outs, meet_len]; omega
theorem outs_set (o l : List Int) (k : Nat) (h : k < l.length) : (outs o l k).setIfInBounds k (.int .i64 (meet1 (meet o (l.take k)).1 l[k]).2) = outs o l (k + 1) := by
  have e : l.length - k = (l.length - (k + 1)) + 1 := by omega
  unfold outs
  rw [meet_take o l k h, e, List.replicate_succ]
  apply Array.ext'
  simp only [Array.toList_setIfInBounds, List.map_append, List.map_cons, List.map_nil]
  have hl : ((meet o (l.take k)).2.map (Value.int .i64)).length = k := by rw [List.length_map, meet_len, List.length_take]; omega
  rw [List.set_append_right _ _ (by omega), hl]
  simp
theorem outs_zero (o l : List Int) (k : Nat) (h : k < l.length) (h0 : (meet1 (meet o (l.take k)).1 l[k]).2 = 0) : outs o l k = outs o l (k + 1) := by
  rw [← outs_set o l k h, h0]
  apply Array.ext
  · simp
  · intro i h1 h2
    rw [Array.getElem_setIfInBounds]
    · split
      · rename_i e
        subst e
        have hl : (meet o (l.take k)).2.length = k := by rw [meet_len, List.length_take]; omega
        simp only [outs, List.getElem_toArray]
        rw [List.getElem_append_right (by rw [List.length_map]; omega)]
        simp
      · rfl
theorem outs_start (o l : List Int) : outs o l 0 = (List.replicate l.length (Value.int .i64 0)).toArray := by simp [outs, meet]
theorem outs_end (o l : List Int) : outs o l l.length = (enc ic (meet o l).2).toArray := by simp [outs, enc_ic]

theorem made_zero (n : Nat) : madeCells #[Value.int .i64 0] n = (List.replicate n (Value.int .i64 0)).toArray := by
  apply Array.ext
  · simp [madeCells]
  · intro i h1 h2
    simp [madeCells, Nat.mod_one]
theorem make_ints (n : Nat) (h : n ≤ 17592186044417) (w : World) :
    (Instr.makeSlice 22 (.int .i64 (n : Int)) (.int .i64 (n : Int))).run Tryz.prog w = .ok (.slice (some ⟨w.heap.size, 0, none⟩) n n) (w.alloc (.cells (List.replicate n (Value.int .i64 0)).toArray 3)) := by
  have := run_make_row' (P := Tryz.prog) 22 3 (.int .i64 0) 8 Tryz.underlying22 intInfo rfl .i64 .i64 n (by omega) (by omega) w
  rw [made_zero] at this
  exact this

theorem turns_far {w : World} {base p q n : Nat} {vO : Value} {o : List Int} (h : Met w base p q n vO o) (hp : base ≤ p) (hq : base ≤ q) : ∀ b, b < base → ¬ Turns p q vO b := by
  rintro b hb (rfl | rfl | h1)
  · omega
  · omega
  · have := (own_block h.own b h1).1; omega
theorem mod_below {B : Nat} {S : Nat → Prop} {w0 w w1 : World} (h : Below B w0 w) (hm : Mod S w w1) (hB : B ≤ w.heap.size) (hs : ∀ b, b < B → ¬ S b) : Below B w0 w1 :=
  ⟨hm.os.trans h.os, hm.tape.trans h.tape, hm.output.trans h.output, Nat.le_trans h.size hm.size, fun i hi => (hm.block i (by omega) (hs i hi)).trans (h.block i hi)⟩
theorem own_far {w : World} {base e size n : Nat} {v : Value} {xs : List Value} (h : w.ownsRow base e size v n xs) {p : Addr} (hp : v.ownBlock ≠ some p.block) (u : Value) : (w.setCell p u).ownsRow base e size v n xs := by
  obtain ⟨h1, h2⟩ := h
  refine ⟨h1, ?_⟩
  rcases h2 with h2 | ⟨g, cap, cur, rfl, hg, hh, r⟩
  · exact .inl h2
  · exact .inr ⟨g, cap, cur, rfl, hg, Blk.far (w := w) hh (by simpa [Value.ownBlock] using hp) u, r⟩
theorem mod_set {S : Nat → Prop} {w w1 : World} {p : Addr} (h : Mod S w w1) (hp : w.heap.size ≤ p.block) (u : Value) : Mod S w (w1.setCell p u) := by
  have h2 : Below w1.heap.size w1 w1 := Below.refl _ _
  refine ⟨h.os, h.tape, h.output, by simpa [World.setCell] using h.size, fun i hi hn => ?_⟩
  exact (Below.heap_setCell w1 p u i (by omega)).trans (h.block i hi hn)
theorem mod_set' {S : Nat → Prop} {w w1 : World} {p : Addr} (h : Mod S w w1) (hp : S p.block) (u : Value) : Mod S w (w1.setCell p u) := by
  refine ⟨h.os, h.tape, h.output, by simpa [World.setCell] using h.size, fun i hi hn => ?_⟩
  exact (Below.heap_setCell w1 p u i (by rintro rfl; exact hn hp)).trans (h.block i hi hn)
/-- The same but for what was drawn. -/
structure Like (w w' : World) : Prop where
  heap : w'.heap = w.heap
  os : w'.os = w.os
  tape : w'.tape = w.tape
  output : w'.output = w.output
theorem like_self (w : World) : Like w w := ⟨rfl, rfl, rfl, rfl⟩
theorem like_drew {w w' : World} (h : Like w w') : Like w w'.drew := ⟨h.heap, h.os, h.tape, h.output⟩
theorem Blk.like {w w' : World} {g : Nat} {t : TypeId} {cs : Array Value} (h : Blk w g t cs) (hl : Like w w') : Blk w' g t cs := by
  unfold Blk at *
  rw [hl.heap]
  exact h
theorem Mod.like {S : Nat → Prop} {w w1 w2 : World} (h : Mod S w w1) (hl : Like w1 w2) : Mod S w w2 :=
  ⟨hl.os.trans h.os, hl.tape.trans h.tape, hl.output.trans h.output, by rw [hl.heap]; exact h.size, fun i hi hn => by rw [hl.heap]; exact h.block i hi hn⟩
theorem own_like {w w' : World} {base e size n : Nat} {v : Value} {xs : List Value} (h : w.ownsRow base e size v n xs) (hl : Like w w') : w'.ownsRow base e size v n xs := by
  obtain ⟨h1, h2⟩ := h
  refine ⟨h1, ?_⟩
  rcases h2 with h2 | ⟨g, cap, cur, rfl, hg, hh, r⟩
  · exact .inl h2
  · exact .inr ⟨g, cap, cur, rfl, hg, Blk.like (w := w) hh hl, r⟩
theorem meet1_zero (o : List Int) : meet1 o 0 = (o, 0) := by simp [meet1]
theorem meet1_old {o : List Int} {a : Int} (h0 : a ≠ 0) (h : a ∈ o) : meet1 o a = (o, placeOf o a) := by simp [meet1, h0, h]
theorem meet1_new {o : List Int} {a : Int} (h0 : a ≠ 0) (h : a ∉ o) : meet1 o a = (o ++ [a], (o.length : Int) + 1) := by simp [meet1, h0, h]

set_option maxHeartbeats 4000000 in
set_option maxRecDepth 100000 in
theorem meet_any (w0 : World) (base p q n : Nat) (vO : Value) (o l : List Int) (A : Option Addr) (c : Nat) (w : World) (hl : named l n = true) (hn : n ≤ 17592186044415) (ho : Ord o n) (hA : Ints w0 A l)
    (hb : Below w0.heap.size w0 w) (h0 : w0.heap.size ≤ base) (hp : base ≤ p) (hq : base ≤ q) (hM : Met w base p q n vO o) :
    Calls Tryz.prog 78 #[.pointer (some ⟨p, 0, none⟩), .slice A l.length c] w fun e w' => ∃ vO', e = .returned (.slice (some ⟨w.heap.size, 0, none⟩) l.length l.length) ∧
      Blk w' w.heap.size 3 (enc ic (meet o l).2).toArray ∧ Met w' base p q n vO' (meet o l).1 ∧ Mod (Turns p q vO) w w' ∧ (vO'.ownBlock = vO.ownBlock ∨ ∃ k, vO'.ownBlock = some k ∧ w.heap.size < k) := by
  obtain ⟨i0, hi0, hz0, hz1, hz2⟩ := info_parts1 intInfo
  have hsz := hA.2
  have hmk := make_ints l.length (by omega)
  have HL := Lib.hid hl
  have HO := Lib.hid ho
  have HA := Lib.hid hA
  have HB := Lib.hid hb
  have H0 := Lib.hid h0
  have HP := Lib.hid hp
  have HQ := Lib.hid hq
  have HM := Lib.hid hM
  have hp1 := hM.blk.lt
  have hq1 := hM.plc.lt
  have hpq : p ≠ q := Blk.ne_ hM.blk hM.plc (by decide)
  have hM0 : Met (w.alloc (.cells (List.replicate l.length (Value.int .i64 0)).toArray 3)) base p q n vO o :=
    ⟨hM.blk.alloc _, hM.plc.alloc _, own_below hM.own (below_1 _ _), hM.apart⟩
  have HM0 := Lib.hid hM0
  clear hl ho hA hb h0 hp hq hM hM0
  go_enter Tryz.func78, Tryz.ntmps78
  go_wp2
  go_loopw [13] (fun i wr => ∃ (k : Nat) (v : Value), k ≤ l.length ∧ i = .int .i64 k ∧ Hid (Blk wr w.heap.size 3 (outs o l k)) ∧ Hid (Met wr base p q n v (meet o (l.take k)).1) ∧ Hid (Mod (Turns p q vO) w wr) ∧
    Hid (v.ownBlock = vO.ownBlock ∨ ∃ j, v.ownBlock = some j ∧ w.heap.size < j)) (fun i _ => l.length - (intOf i).toNat)
  case atStart =>
    refine ⟨0, vO, Nat.zero_le _, rfl, ?_, ?_, Mod.of_below (below_1 _ _), .inl rfl⟩
    · rw [outs_start]; exact Blk.new _ _ _
    · exact HM0.out
  case round =>
    obtain ⟨k, v, hk, rfl, HK, HM1, HD, HV⟩ := hrel
    by_cases hlt : k < l.length
    · have hbw : Below w0.heap.size w0 wr := mod_below HB.out HD.out HB.out.size (fun b hb => turns_far HM.out HP.out HQ.out b (by have := H0.out; omega))
      obtain ⟨ad, rfl, c1⟩ := (HA.out.below hbw).at_ k hlt
      have hnm := named_get HL.out k hlt
      have HT := Lib.hid (meet_take o l k hlt)
      have HS := Lib.hid (outs_set o l k hlt)
      have HZ := Lib.hid (outs_zero o l k hlt)
      have hks : k < (outs o l k).size := by rw [outs_size o l k hk]; exact hlt
      have hkf := HK.out.frozen k
      obtain ⟨x, hx⟩ : ∃ x, wr.cell? ⟨w.heap.size, k, none⟩ = some x := ⟨_, (HK.out.cell k).trans (Array.getElem?_eq_getElem hks)⟩
      have HOrd := Lib.hid (ord_meet HO.out (named_take HL.out k))
      have hdl := ord_len HOrd.out
      generalize ho1 : (meet o (l.take k)).1 = o1 at HM1 HT HS HZ HOrd hdl
      generalize ha : l[k] = a at c1 hnm HT HS HZ
      have hpf := HM1.out.blk.frozen 1
      have hqf := HM1.out.plc.frozen a.toNat
      have hpz := HM1.out.blk.lt
      have hqz := HM1.out.plc.lt
      have hkz := HK.out.lt
      obtain ⟨c2, c3, c4⟩ := met_cells HM1.out a hnm.1 hnm.2
      obtain ⟨hn0, hn1⟩ := hnm
      clear hbw ho1 ha
      by_cases h0 : a = 0
      · subst h0
        go_wp2
        go_roundw
        case rel =>
          refine ⟨k + 1, v, by omega, by go_num, ?_, ?_, HD.out, HV.out⟩
          · show Blk _ _ _ _
            rw [← HZ.out (by rw [meet1_zero])]
            exact HK.out
          · show Met _ _ _ _ _ _ _
            rw [HT.out, meet1_zero]
            exact HM1.out
        case measure => simp [intOf]; omega
      · have e0 : (a == 0) = false := beq_eq_false_iff_ne.mpr h0
        have HA0 := Lib.hid h0
        by_cases hm : a ∈ o1
        · have HR := Lib.hid (meet1_old h0 hm)
          have h1 : placeOf o1 a ≠ 0 := fun e => (placeOf_zero.1 e) hm
          generalize placeOf o1 a = z at c4 h1 HR
          have e1 : (z == 0) = false := beq_eq_false_iff_ne.mpr h1
          clear h0 h1 hm
          go_wp2
          go_roundw
          case rel =>
            refine ⟨k + 1, v, by omega, by go_num, ?_, ?_, ?_, HV.out⟩
            · show Blk _ _ _ _
              rw [← HS.out, HR.out]
              exact HK.out.set_ _ _
            · show Met _ _ _ _ _ _ _
              rw [HT.out, HR.out]
              exact ⟨HM1.out.blk.far (by simp; omega) _, HM1.out.plc.far (by simp; omega) _, own_far HM1.out.own (by
                intro e
                simp at e
                rcases HV.out with h | ⟨j, h, hj⟩
                · rw [h] at e
                  have := (own_block HM.out.own _ e).2
                  omega
                · rw [h] at e
                  injection e with e
                  omega) _, HM1.out.apart⟩
            · exact mod_set HD.out (Nat.le_refl _) _
          case measure => simp [intOf]; omega
        · have HR := Lib.hid (meet1_new h0 hm)
          have HM' := Lib.hid hm
          have h1 : placeOf o1 a = 0 := placeOf_zero.2 hm
          rw [h1] at c4
          have hvK : v.ownBlock ≠ some w.heap.size := by
            intro e
            rcases HV.out with h | ⟨j, h, hj⟩
            · rw [h] at e
              have := (own_block HM.out.own _ e).2
              omega
            · rw [h] at e
              injection e with e
              omega
          have hvp : v.ownBlock ≠ some p := own_blk_ne HM1.out.own HM1.out.blk (by decide)
          have HvK := Lib.hid hvK
          have Hvp := Lib.hid hvp
          have hbz : base ≤ wr.heap.size := by have := HP.out; omega
          have hoz : o1.length + 1 ≤ n := by
            have h2 := ord_len (ord_meet1 HOrd.out hn0 hn1)
            rw [HR.out] at h2
            simpa using h2
          clear h0 h1 hm hvK hvp
          go_wp2_with (first | (refine wpList_append_any _ (by rfl) _ _ _ (by rfl) base 3 i0 _ 1 8 Tryz.underlying22 hi0 hz0 hz1 hz2 rfl (by omega) v o1.length _ (by rfl) (own_below HM1.out.own (below_1 _ _)) _ 1 1 _ (by rfl) (Reads.new _ _ rfl) (by simp [Value.oneCell']) (fun e => by cases e) (by simp only [maxLen]; omega) (by omega) (by simp; omega) ?_; intro v4 w4 hown4 hg4 hat4; obtain ⟨A4, cap4, rfl, hc4⟩ := own_form hown4; have hP4 := (HM1.out.blk.alloc (.cells #[.int .i64 a] 3)).mod (Mod.of_grown hg4) (fun e => Hvp.out e.symm); have hQ4 := (HM1.out.plc.alloc (.cells #[.int .i64 a] 3)).mod (Mod.of_grown hg4) (fun e => HM1.out.apart e.symm); have hK4 := (HK.out.alloc (.cells #[.int .i64 a] 3)).mod (Mod.of_grown hg4) (fun e => HvK.out e.symm); have d0 := hP4.cell 0; have d1 := hP4.cell 1; have d2 := hQ4.cell a.toNat; have d3 := hK4.cell k; have f1 := hP4.frozen 1; have f2 := hQ4.frozen a.toNat; have f3 := hK4.frozen k; rw [places_get _ n a hn0 hn1] at d2; rw [Array.getElem?_eq_getElem hks] at d3; simp at d0 d1; have HP4 := Lib.hid hP4; have HQ4 := Lib.hid hQ4; have HK4 := Lib.hid hK4; have HG4 := Lib.hid hg4; have HO4 := Lib.hid hown4; have HA4 := Lib.hid hat4; clear hP4 hQ4 hK4 hg4 hown4 hat4))
          have hv4p : (Value.slice A4 (o1.length + 1) cap4).ownBlock ≠ some p := by
            rcases HA4.out with h | h
            · rw [h]; exact Hvp.out
            · rw [h]; intro e; injection e with e; simp at e; omega
          have hv4q : (Value.slice A4 (o1.length + 1) cap4).ownBlock ≠ some q := by
            rcases HA4.out with h | h
            · rw [h]; exact HM1.out.apart
            · rw [h]; intro e; injection e with e; simp at e; omega
          have HP5 := Lib.hid (show Blk (w4.setCell ⟨p, 1, none⟩ (.slice A4 (o1.length + 1) cap4)) p 115 #[.slice (some ⟨q, 0, none⟩) (n + 1) (n + 1), .slice A4 (o1.length + 1) cap4] from HP4.out.set_ 1 _)
          have HQ5 := Lib.hid (show Blk (w4.setCell ⟨p, 1, none⟩ (.slice A4 (o1.length + 1) cap4)) q 3 (places o1 n) from HQ4.out.far (by simp; omega) _)
          have HK5 := Lib.hid (show Blk (w4.setCell ⟨p, 1, none⟩ (.slice A4 (o1.length + 1) cap4)) w.heap.size 3 (outs o l k) from HK4.out.far (by simp; omega) _)
          have HO5 := Lib.hid (show (w4.setCell ⟨p, 1, none⟩ (.slice A4 (o1.length + 1) cap4)).ownsRow base 3 1 (.slice A4 (o1.length + 1) cap4) (o1.length + 1) (enc ic o1 ++ [.int .i64 a]) from own_far HO4.out hv4p _)
          have HD5 := Lib.hid (show Mod (Turns p q vO) w (w4.setCell ⟨p, 1, none⟩ (.slice A4 (o1.length + 1) cap4)) from mod_set' ((HD.out.trans (Mod.of_below (S := fun _ => False) (below_1 wr (.cells #[.int .i64 a] 3))) (fun b _ h => h.elim)).trans (Mod.of_grown HG4.out) (by
            intro b hb h
            rcases HV.out with h2 | ⟨j, h2, hj⟩
            · exact .inr (.inr (h2 ▸ h.symm))
            · rw [h2] at h
              injection h with h
              omega)) (.inl rfl) _)
          have Hv4q := Lib.hid hv4q
          have Hv4p := Lib.hid hv4p
          have m0 := HP5.out.cell 0
          have m1 := HP5.out.cell 1
          have m2 := HQ5.out.cell a.toNat
          have m3 := HQ5.out.frozen a.toNat
          rw [places_get _ n a hn0 hn1, placeOf_zero.2 HM'.out] at m2
          simp only [List.getElem?_toArray, List.getElem?_cons_zero, List.getElem?_cons_succ] at m0 m1
          generalize hW5 : w4.setCell ⟨p, 1, none⟩ (.slice A4 (o1.length + 1) cap4) = W5 at *
          have HW5 := Lib.hid hW5
          clear hW5 hv4p hv4q d0 d1 d2 d3 f1 f2 f3
          have hn2 : a < (n : Int) + 1 := by omega
          have m4 := HK5.out.cell k
          have m5 := HK5.out.frozen k
          rw [Array.getElem?_eq_getElem hks] at m4
          go_region
          go_wp2
          go_roundw
          case rel =>
            refine ⟨k + 1, .slice A4 (o1.length + 1) cap4, by omega, by go_num, ?_, ?_, ?_, ?_⟩
            · show Blk _ _ _ _
              rw [← HS.out, HR.out]
              exact ((HK5.out.far (by simp; omega) _).drewN 1).set_ _ _
            · show Met _ _ _ _ _ _ _
              rw [HT.out, HR.out]
              refine ⟨((HP5.out.far (by simp; omega) _).drewN 1).far (by simp; omega) _, ?_, ?_, Hv4q.out⟩
              · have := HQ5.out.set_ a.toNat (.int .i64 ((o1.length : Int) + 1))
                rw [places_set o1 n a hn0 hn1 HM'.out] at this
                exact (this.drewN 1).far (by simp; omega) _
              · have hK4 : (Value.slice A4 (o1.length + 1) cap4).ownBlock ≠ some w.heap.size := by
                  rcases HA4.out with h | h
                  · rw [h]; exact HvK.out
                  · rw [h]; intro e; injection e with e; simp at e; omega
                have h1 := own_like (own_far (p := ⟨q, a.toNat, none⟩) HO5.out (by simpa using Hv4q.out) (.int .i64 ((o1.length : Int) + 1))) (like_drew (like_self _))
                have h2 := own_far (p := ⟨w.heap.size, k, none⟩) h1 (by simpa using hK4) (.int .i64 ((o1.length : Int) + 1))
                rw [List.length_append, enc_append]
                exact h2
            · exact mod_set (Mod.like (mod_set' HD5.out (.inr (.inl rfl)) _) (like_drew (like_self _))) (Nat.le_refl _) _
            · show _ ∨ _
              rcases HA4.out with h | h
              · rw [h]; exact HV.out
              · exact .inr ⟨_, h, by simp; omega⟩
          case measure => simp [intOf]; omega
    · go_wp2
      go_ret
      have hkl : k = l.length := by omega
      subst hkl
      have h1 := HK.out
      have h2 := HM1.out
      rw [outs_end] at h1
      rw [List.take_length] at h2
      exact ⟨v, rfl, h1, h2, HD.out, HV.out⟩

end Go.Proofs.YteminkohgagedaaGreat.Gr
namespace Go.Proofs.YteminkohgagedaaGreat.Gr
open Go.RowKit Go.Proofs.YteminkohgagedaaGreat.Base
set_option linter.unusedVariables false
set_option linter.unusedSimpArgs false

theorem nodeInfo : (Tryz.prog.info? 55).map (fun i => (i.zero, i.size, i.bytes)) = some (some (.agg #[.slice none 0 0, .slice none 0 0]), 2, 48) := by kernel_rfl

/-- A block that nobody turns any more. -/
structure Safe (w : World) (p q bo lo : Nat) (vO vN : Value) (k : Nat) : Prop where
  lo : lo ≤ k
  lt : k < w.heap.size
  p : k ≠ p
  q : k ≠ q
  bo : k ≠ bo
  o : vO.ownBlock ≠ some k
  n : vN.ownBlock ≠ some k
/-- A node that is built: its cells, what they read. -/
structure Built (w : World) (S : Nat → Prop) (xs : List Value) (j : Nat) (x : Nd) : Prop where
  out : ∃ A c B d, xs[j * 2]? = some (.slice A x.slots.length c) ∧ xs[j * 2 + 1]? = some (.slice B x.words.length d) ∧ Ints w A x.slots ∧ Ints w B x.words ∧ (∀ ad, A = some ad → S ad.block) ∧ (∀ ad, B = some ad → S ad.block) ∧
    w.ownsRow 0 3 1 (.slice A x.slots.length c) x.slots.length (enc ic x.slots) ∧ w.ownsRow 0 3 1 (.slice B x.words.length d) x.words.length (enc ic x.words)
theorem own_some {A : Option Addr} {n c k : Nat} (h : (Value.slice A n c).ownBlock = some k) : ∃ ad, A = some ad ∧ ad.block = k := by
  cases A with
  | none => simp [Value.ownBlock] at h
  | some ad => exact ⟨ad, rfl, by simpa [Value.ownBlock] using h⟩
theorem own_full {w : World} {b n : Nat} {l : List Int} (h : Blk w b 3 (enc ic l).toArray) (hl : l.length = n) (hm : n ≤ maxLen) : w.ownsRow 0 3 1 (.slice (some ⟨b, 0, none⟩) n n) n (enc ic l) := by
  subst hl
  have e : (enc ic l).length = l.length * 1 := enc_len ic_len l
  exact ⟨e, .inr ⟨b, l.length, _, rfl, Nat.zero_le _, h, Nat.le_refl _, hm, by simpa using e, List.take_of_length_le (by show (enc ic l).length ≤ _; rw [e]; exact Nat.le_refl _)⟩⟩

theorem Ints.mod {S : Nat → Prop} {w w' : World} {A : Option Addr} {l : List Int} (h : Ints w A l) (hm : Mod S w w') (hs : ∀ ad, A = some ad → ¬ S ad.block) : Ints w' A l := by
  refine ⟨?_, h.2⟩
  refine Reads.keep h.1 fun p v hp hA => ?_
  obtain ⟨ad, e, hb⟩ := hA
  have h1 := hs ad e
  have h2 := cell_lt hp
  rw [← hb] at h1
  have h3 := hm.block p.block h2 h1
  rw [World.cell?_of_block h3]
  exact hp

theorem Met.keep {w w' : World} {base p q n : Nat} {vO : Value} {o : List Int} (h : Met w base p q n vO o) (hb : Below w.heap.size w w') : Met w' base p q n vO o :=
  ⟨h.blk.below hb h.blk.lt, h.plc.below hb h.plc.lt, own_below h.own hb, h.apart⟩
theorem reads_drew {w : World} {size n : Nat} {A : Option Addr} {xs : List Value} (h : Reads w size A n xs) : Reads w.drew size A n xs := h
theorem right_parts {g : Gr} (h : right g = true) : g.roots.length = 8 ∧ g.nodes.length ≤ 1000 ∧ named g.roots g.nodes.length = true ∧ ∀ x ∈ g.nodes, ndOk x g.nodes.length = true := by
  simp only [right, Bool.and_eq_true, decide_eq_true_eq, List.all_eq_true] at h
  exact ⟨h.1.1.1, h.1.1.2, h.1.2, h.2⟩
theorem ndOk_parts {x : Nd} {n : Int} (h : ndOk x n = true) : x.slots.length ≤ 15 ∧ x.words.length ≤ 30 ∧ wordsOk x.words = true ∧ named x.slots n = true := by
  simp only [ndOk, Bool.and_eq_true, decide_eq_true_eq] at h
  exact ⟨h.1.1.1, h.1.1.2, h.1.2, h.2⟩
theorem nodeAt_eq (g : Gr) (a : Int) (h1 : 1 ≤ a) (h2 : a ≤ g.nodes.length) : nodeAt g a = g.nodes[(a - 1).toNat]'(by omega) := by
  have e : a.toNat - 1 = (a - 1).toNat := by omega
  have hl : (a - 1).toNat < g.nodes.length := by omega
  unfold nodeAt
  rw [e, List.getD_eq_getElem?_getD, List.getElem?_eq_getElem hl]
  rfl
theorem canonGo_step (g : Gr) (f i : Nat) (o : List Int) (out : List Nd) (h : i < o.length) :
    canonGo g (f + 1) i o out = canonGo g f (i + 1) (meet o (nodeAt g o[i]).slots).1 (out ++ [⟨(meet o (nodeAt g o[i]).slots).2, (nodeAt g o[i]).words⟩]) := by
  rw [canonGo, dif_pos h]
theorem canonGo_stop (g : Gr) (f i : Nat) (o : List Int) (out : List Nd) (h : ¬ i < o.length) : canonGo g f i o out = out := by
  cases f with
  | zero => rfl
  | succ f => rw [canonGo, dif_neg h]

/-- What Number holds while it goes over the order. -/
structure Num (w : World) (wr : World) (base p q bo gr lo n : Nat) (vO vN : Value) (o : List Int) (rs : List Int) (ns : List Nd) (xs : List Value) : Prop where
  met : Met wr base p q n vO o
  out : Blk wr bo 25 #[.slice (some ⟨gr, 0, none⟩) rs.length rs.length, vN]
  roots : Blk wr gr 3 (enc ic rs).toArray
  safe : Safe wr p q bo lo vO vN gr
  own : wr.ownsRow base 55 2 vN ns.length xs
  built : ∀ j, (h : j < ns.length) → Built wr (Safe wr p q bo lo vO vN) xs j ns[j]
  below : Below w.heap.size w wr
  hb : w.heap.size ≤ base
  hp : base ≤ p
  hq : base ≤ q
  hbo : base ≤ bo
  ord : Ord o n

theorem graphSize : (Tryz.prog.info? 25).map (·.size) = some 2 := by kernel_rfl
theorem ints_blk {w : World} {b : Nat} {t : TypeId} {l : List Int} (h : Blk w b t (enc ic l).toArray) (hl : l.length ≤ 17592186044416) : Ints w (some ⟨b, 0, none⟩) l := by
  refine ⟨⟨by rw [enc_len ic_len], fun _ => ⟨_, rfl, fun j u hu => ?_⟩⟩, hl⟩
  rw [add_of_zero, h.cell]
  simpa using hu
/-- A graph by value that stays whatever the blocks ahead of B become. -/
def Firm (B : Nat) (w : World) (v : Value) (g : Gr) : Prop := ∀ (S : Nat → Prop) (w' : World), Mod S w w' → (∀ b, S b → b < B) → GrV w' v g
theorem Firm.now {B : Nat} {w : World} {v : Value} {g : Gr} (h : Firm B w v g) : GrV w v g := h (fun _ => False) w (Mod.refl _ _) (fun _ h => h.elim)
theorem Firm.mod {B : Nat} {w w' : World} {v : Value} {g : Gr} (h : Firm B w v g) {S : Nat → Prop} (hm : Mod S w w') (hs : ∀ b, S b → b < B) : Firm B w' v g :=
  fun S' w'' hm' hs' => h (fun b => S b ∨ S' b) w'' (Mod.trans (hm.mono fun b _ h => .inl h) hm' (fun b _ h => .inr h)) (fun b hb => hb.elim (hs b) (hs' b))
theorem Firm.below {B : Nat} {w w' : World} {v : Value} {g : Gr} (h : Firm B w v g) (hb : Below w.heap.size w w') : Firm B w' v g := h.mod (S := fun _ => False) (Mod.of_below hb) (fun _ h => h.elim)
theorem Firm.low {B B' : Nat} {w : World} {v : Value} {g : Gr} (h : Firm B w v g) (hb : B' ≤ B) : Firm B' w v g := fun S w' hm hs => h S w' hm (fun b hb' => by have := hs b hb'; omega)
theorem num_end {w wr w' : World} {base p q bo gr lo n : Nat} {vO : Value} {AN : Option Addr} {cN : Nat} {o rs : List Int} {ns : List Nd} {xs : List Value} {b1 : Nat}
    (h : Num w wr base p q bo gr lo n vO (.slice AN ns.length cN) o rs ns xs) (hm : Mod (fun k => k = b1 ∨ k < base) wr w') (hb : b1 < lo ∧ base ≤ lo) (hl : ns.length ≤ 17592186044416) (hrl : rs.length ≤ 17592186044416)
    (hN : (Value.slice AN ns.length cN).ownBlock ≠ some b1) :
    GrV w' (.agg #[.slice (some ⟨gr, 0, none⟩) rs.length rs.length, .slice AN ns.length cN]) ⟨rs, ns⟩ := by
  refine ⟨_, _, _, _, rfl, ?_, hl, fun i hi => ?_⟩
  · exact (ints_blk h.roots hrl).mod hm (by rintro ad e; injection e with e; subst e; have := h.safe.lo; simp; omega)
  · obtain ⟨A, c, B, d, x1, x2, i1, i2, s1, s2, _, _⟩ := (h.built i hi).out
    have hr := Reads.of_own h.own
    have hi' : i < ns.length := hi
    obtain ⟨ad, rfl, hc⟩ := hr.2 (by rw [hr.1]; omega)
    have hne : ad.block ≠ b1 := by intro e; apply hN; subst e; simp [Value.ownBlock]
    have hge : base ≤ ad.block := (own_block h.own _ rfl).1
    have hcell : ∀ j u, xs[j]? = some u → w'.cell? (ad.add j) = some u := fun j u hu => by
      have h1 := hc j u hu
      rw [World.cell?_of_block (hm.block _ (cell_lt h1) (by rw [block_of_add]; rintro (e | e); exact hne e; omega))]
      exact h1
    refine ⟨ad, rfl, A, c, B, d, hcell _ _ x1, ?_, i1.mod hm (fun ad e => by have := (s1 ad e).lo; omega), i2.mod hm (fun ad e => by have := (s2 ad e).lo; omega)⟩
    · have h2 := hcell _ _ x2
      rw [← add_of_add] at h2
      exact h2
theorem num_firm {w wr w' : World} {base p q bo gr lo n : Nat} {vO : Value} {AN : Option Addr} {cN : Nat} {o rs : List Int} {ns : List Nd} {xs : List Value} {b1 : Nat}
    (h : Num w wr base p q bo gr lo n vO (.slice AN ns.length cN) o rs ns xs) (hm : Mod (fun k => k = b1) wr w') (hb : b1 < lo ∧ base ≤ lo) (hl : ns.length ≤ 17592186044416) (hrl : rs.length ≤ 17592186044416)
    (hN : (Value.slice AN ns.length cN).ownBlock ≠ some b1) :
    Firm base w' (.agg #[.slice (some ⟨gr, 0, none⟩) rs.length rs.length, .slice AN ns.length cN]) ⟨rs, ns⟩ := fun S w'' hm' hs =>
  num_end h (Mod.trans (hm.mono fun b _ h => .inl h) hm' (fun b _ h => .inr (hs b h))) hb hl hrl hN

theorem num_clone {w : World} {b base : Nat} {v vN : Value} {xs : List Value} {n : Nat} (Bs : Option Addr) (l : List Int) (ds : Nat) (hI : Ints w Bs l) (w2 W' : World) (hl : Like w2 W') (hB : Below w.heap.size w w2) (h1 : Blk w2 b 25 #[vN, v]) (h3 : w2.ownsRow base 55 2 v n xs) :
    Calls Tryz.prog 75 #[.slice Bs l.length ds] W' fun e w3 => ∃ AC cC, e = .returned (.slice AC l.length cC) ∧ w3.cell? ⟨b, 1, none⟩ = some v ∧ w3.frozen? ⟨b, 1, none⟩ = false ∧ b < w3.heap.size ∧ w.heap.size ≤ w3.heap.size ∧
      Hid (w3.ownsRow w2.heap.size 3 1 (.slice AC l.length cC) l.length (enc ic l)) ∧ Hid (Below w2.heap.size w2 w3) ∧ Hid (Blk w3 b 25 #[vN, v]) ∧ Hid (w3.ownsRow base 55 2 v n xs) := by
  have hB' : Below w.heap.size w W' := ⟨hl.os.trans hB.os, hl.tape.trans hB.tape, hl.output.trans hB.output, by rw [hl.heap]; exact hB.size, fun i hi => by rw [hl.heap]; exact hB.block i hi⟩
  refine (clone_any Bs l ds W' (hI.below hB')).mono ?_
  rintro e w3 ⟨vC, rfl, hown, hb⟩
  obtain ⟨AC, cC, rfl, hcC⟩ := own_form hown
  have hb' : Below w2.heap.size w2 w3 := ⟨hb.os.trans hl.os, hb.tape.trans hl.tape, hb.output.trans hl.output, by have := hb.size; rw [hl.heap] at this; exact this, fun i hi => by have := hb.block i (by rw [hl.heap]; exact hi); rw [this, hl.heap]⟩
  rw [hl.heap] at hown
  have h1' := h1.below hb' h1.lt
  have c := h1'.cell 1
  simp only [List.getElem?_toArray, List.getElem?_cons_zero, List.getElem?_cons_succ] at c
  exact ⟨AC, cC, rfl, c, h1'.frozen 1, h1'.lt, Nat.le_trans hB.size hb'.size, hown, hb', h1', own_below h3 hb'⟩
/-- The same row ahead of the append. -/
theorem num_ahead {w3 W3 : World} {base n : Nat} {v : Value} {xs : List Value} (h : w3.ownsRow base 55 2 v n xs) (ob : Obj) (hl : Like (w3.alloc ob) W3) : W3.ownsRow base 55 2 v n xs :=
  own_like (own_below h (below_1 _ _)) hl
theorem num_cell {w3 W3 w4 : World} {b : Nat} {v vN : Value} (h : Blk w3 b 25 #[vN, v]) (ob : Obj) (hl : Like (w3.alloc ob) W3) {row : Option Nat} (hg : W3.grownBy w4 row) (hn : row ≠ some b) :
    w4.cell? ⟨b, 1, none⟩ = some v ∧ w4.frozen? ⟨b, 1, none⟩ = false ∧ b < w4.heap.size := by
  have h1 := Base.Blk.mod (Blk.like (h.alloc ob) hl) (Mod.of_grown hg) (fun e => hn e.symm)
  have c := h1.cell 1
  simp only [List.getElem?_toArray, List.getElem?_cons_zero, List.getElem?_cons_succ] at c
  exact ⟨c, h1.frozen 1, h1.lt⟩

theorem own_mod {S : Nat → Prop} {w w' : World} {base e size n : Nat} {v : Value} {xs : List Value} (h : w.ownsRow base e size v n xs) (hm : Mod S w w') (hs : ∀ k, v.ownBlock = some k → ¬ S k) : w'.ownsRow base e size v n xs := by
  obtain ⟨h1, h2⟩ := h
  refine ⟨h1, ?_⟩
  rcases h2 with h2 | ⟨g, cap, cur, rfl, hg, hh, r⟩
  · exact .inl h2
  · exact .inr ⟨g, cap, cur, rfl, hg, Blk.mod (w := w) hh hm (hs g rfl), r⟩
theorem own_own_ne {w : World} {b1 b2 e1 e2 s1 s2 n1 n2 : Nat} {v1 v2 : Value} {x1 x2 : List Value} (h1 : w.ownsRow b1 e1 s1 v1 n1 x1) (h2 : w.ownsRow b2 e2 s2 v2 n2 x2) (hne : e1 ≠ e2) : ∀ k, v1.ownBlock = some k → v2.ownBlock ≠ some k := by
  intro k hk
  rcases h1.2 with ⟨rfl, _⟩ | ⟨g, cap, cur, rfl, _, hh, _⟩
  · simp [Value.ownBlock] at hk
  · have : g = k := by simpa [Value.ownBlock] using hk
    subst this
    exact own_blk_ne h2 hh (fun e => hne e.symm)
theorem like_mod {w w' : World} (h : Like w w') : Mod (fun _ => False) w w' := ⟨h.os, h.tape, h.output, by rw [h.heap]; exact Nat.le_refl _, fun _ _ _ => by rw [h.heap]⟩
theorem own_add {A : Option Addr} {n c k : Nat} (h : (Value.slice A n c).ownBlock ≠ some k) (ad : Addr) (e : A = some ad) : ad.block ≠ k := by
  rintro rfl
  subst e
  exact h rfl

theorem meet1_grow (o : List Int) (a : Int) : o.length ≤ (meet1 o a).1.length := by
  unfold meet1
  split
  · exact Nat.le_refl _
  · split
    · exact Nat.le_refl _
    · simp
theorem meet_grow (o l : List Int) : o.length ≤ (meet o l).1.length := by
  induction l generalizing o with
  | nil => exact Nat.le_refl _
  | cons a l ih => exact Nat.le_trans (meet1_grow o a) (ih _)
/-- One more node. -/
theorem num_round {w wr W6 w2 w3 W3 w4 : World} {base p q bo gr lo n : Nat} {vO : Value} {AN : Option Addr} {cN : Nat} {o rs : List Int} {ns : List Nd} {xs : List Value}
    (h : Num w wr base p q bo gr lo n vO (.slice AN ns.length cN) o rs ns xs) (hB6 : Below wr.heap.size wr W6) (x : Nd) (hx : ndOk x n = true)
    {vO2 : Value} (hb2 : Blk w2 W6.heap.size 3 (enc ic (meet o x.slots).2).toArray) (hm2 : Met w2 base p q n vO2 (meet o x.slots).1) (ht2 : Mod (Turns p q vO) W6 w2)
    (hv2 : vO2.ownBlock = vO.ownBlock ∨ ∃ k, vO2.ownBlock = some k ∧ W6.heap.size < k)
    {AC : Option Addr} {cC : Nat} (hC : w3.ownsRow w2.heap.size 3 1 (.slice AC x.words.length cC) x.words.length (enc ic x.words)) (hb3 : Below w2.heap.size w2 w3)
    (ob : Obj) (hl : Like (w3.alloc ob) W3) (hg : W3.grownBy w4 (Value.slice AN ns.length cN).ownBlock)
    {A4 : Option Addr} {c4 : Nat}
    (ho4 : w4.ownsRow base 55 2 (.slice A4 (ns.length + 1) c4) (ns.length + 1) (xs ++ [.slice (some ⟨W6.heap.size, 0, none⟩) x.slots.length x.slots.length, .slice AC x.words.length cC]))
    (ha4 : (Value.slice A4 (ns.length + 1) c4).ownBlock = (Value.slice AN ns.length cN).ownBlock ∨ (Value.slice A4 (ns.length + 1) c4).ownBlock = some W3.heap.size) :
    Num w (w4.setCell ⟨bo, 1, none⟩ (.slice A4 (ns.length + 1) c4)) base p q bo gr lo n vO2 (.slice A4 (ns.length + 1) c4) (meet o x.slots).1 rs (ns ++ [⟨(meet o x.slots).2, x.words⟩])
      (xs ++ [.slice (some ⟨W6.heap.size, 0, none⟩) x.slots.length x.slots.length, .slice AC x.words.length cC]) ∧
    Mod (fun b => b = p ∨ b = q ∨ b = bo ∨ vO.ownBlock = some b ∨ (Value.slice AN ns.length cN).ownBlock = some b) wr (w4.setCell ⟨bo, 1, none⟩ (.slice A4 (ns.length + 1) c4)) := by
  obtain ⟨x1, x2, x3, x4⟩ := ndOk_parts hx
  generalize hvN : Value.slice AN ns.length cN = vN at *
  generalize hvM : Value.slice A4 (ns.length + 1) c4 = vM at *
  have zp := h.met.blk.lt
  have zq := h.met.plc.lt
  have zo := h.out.lt
  have z6 := hB6.size
  have z2 := hb2.lt
  have z3 := hb3.size
  have z3' : W3.heap.size = w3.heap.size + 1 := by rw [hl.heap]; simp
  have z4 := hg.size
  have z5 : (w4.setCell ⟨bo, 1, none⟩ vM).heap.size = w4.heap.size := by simp [World.setCell]
  have zO := own_block h.met.own
  have zN := own_block h.own
  have zO2 := own_block hm2.own
  have nOp := own_blk_ne h.met.own h.met.blk (by decide)
  have nOo := own_blk_ne h.met.own h.out (by decide)
  have nNp := own_blk_ne h.own h.met.blk (by decide)
  have nNq := own_blk_ne h.own h.met.plc (by decide)
  have nNo := own_blk_ne h.own h.out (by decide)
  have nON := own_own_ne h.met.own h.own (by decide)
  have npo := Blk.ne_ h.met.blk h.out (by decide)
  have nqo := Blk.ne_ h.met.plc h.out (by decide)
  have nM : ∀ k, k < W3.heap.size → vN.ownBlock ≠ some k → vM.ownBlock ≠ some k := by
    intro k hk hn
    rcases ha4 with e | e
    · rw [e]; exact hn
    · rw [e]; intro e; injection e with e; omega
  have nO2 : ∀ k, k < W6.heap.size → vO.ownBlock ≠ some k → vO2.ownBlock ≠ some k := by
    intro k hk hn
    rcases hv2 with e | ⟨j, e, hj⟩
    · rw [e]; exact hn
    · rw [e]; intro e; injection e with e; omega
  have nO2N : ∀ k, vO2.ownBlock = some k → vN.ownBlock ≠ some k := by
    intro k hk hn
    rcases hv2 with e | ⟨j, e, hj⟩
    · rw [e] at hk; exact nON k hk hn
    · rw [e] at hk; injection hk with hk; have := zN k hn; omega
  have t1 : Mod (fun b => vN.ownBlock = some b) w2 w4 :=
    (((Mod.of_below (S := fun b => vN.ownBlock = some b) hb3).trans (Mod.of_below (S := fun b => vN.ownBlock = some b) (below_1 w3 ob)) (fun _ _ h => h)).trans (like_mod hl) (fun _ _ h => h.elim)).trans (Mod.of_grown hg) (fun b _ h => h.symm)
  have t2 : Mod (fun b => b = bo ∨ vN.ownBlock = some b) w2 (w4.setCell ⟨bo, 1, none⟩ vM) := mod_set' (t1.mono fun b _ h => .inr h) (.inl rfl) _
  have t3 : Mod (fun b => b = p ∨ b = q ∨ b = bo ∨ vO.ownBlock = some b ∨ vN.ownBlock = some b) W6 (w4.setCell ⟨bo, 1, none⟩ vM) :=
    Mod.trans (ht2.mono (fun b _ (h : b = p ∨ b = q ∨ vO.ownBlock = some b) => by rcases h with h | h | h <;> simp [h])) t2 (fun b _ h => by rcases h with h | h <;> simp [h])
  have t4 : Mod (fun b => b = p ∨ b = q ∨ b = bo ∨ vO.ownBlock = some b ∨ vN.ownBlock = some b) wr (w4.setCell ⟨bo, 1, none⟩ vM) :=
    (Mod.of_below hB6).trans t3 (fun b _ h => h)
  have safe : ∀ k, Safe wr p q bo lo vO vN k → ¬ (k = p ∨ k = q ∨ k = bo ∨ vO.ownBlock = some k ∨ vN.ownBlock = some k) := by
    rintro k hs (e | e | e | e | e)
    · exact hs.p e
    · exact hs.q e
    · exact hs.bo e
    · exact hs.o e
    · exact hs.n e
  have keep : ∀ k, Safe wr p q bo lo vO vN k → Safe (w4.setCell ⟨bo, 1, none⟩ vM) p q bo lo vO2 vM k := fun k hs =>
    ⟨hs.lo, by have := hs.lt; omega, hs.p, hs.q, hs.bo, nO2 k (by have := hs.lt; omega) hs.o, nM k (by have := hs.lt; omega) hs.n⟩
  have hlo : lo ≤ wr.heap.size := by have := h.safe.lo; have := h.safe.lt; omega
  refine ⟨⟨⟨?_, ?_, ?_, ?_⟩, ?_, ?_, ?_, ?_, ?_, ?_, h.hb, h.hp, h.hq, h.hbo, ?_⟩, t4⟩
  · exact hm2.blk.mod t2 (by rintro (e | e); exact npo e; exact nNp e)
  · exact hm2.plc.mod t2 (by rintro (e | e); exact nqo e; exact nNq e)
  · refine own_mod hm2.own t2 ?_
    rintro k hk (rfl | e)
    · exact nO2 _ (by omega) nOo hk
    · exact nO2N k hk e
  · exact hm2.apart
  · have h1 := h.out.mod (Mod.of_below (S := fun _ => False) hB6) (fun e => e)
    have h2 := h1.mod ht2 (by
      rintro (e | e | e)
      · exact npo e.symm
      · exact nqo e.symm
      · exact nOo e)
    have h3 := (h2.mod t1 nNo).set_ 1 vM
    exact h3
  · exact h.roots.mod t4 (safe _ h.safe)
  · exact keep _ h.safe
  · have h1 : vM.ownBlock ≠ some bo := nM _ (by omega) nNo
    have h2 := own_far (p := ⟨bo, 1, none⟩) ho4 h1 vM
    rw [List.length_append]
    exact h2
  · intro j hj
    have hxl : xs.length = ns.length * 2 := h.own.1
    rw [List.length_append] at hj
    simp only [List.length_cons, List.length_nil] at hj
    by_cases hlt : j < ns.length
    · rw [List.getElem_append_left hlt]
      obtain ⟨A, c, B, d, y1, y2, i1, i2, s1, s2, o1, o2⟩ := (h.built j hlt).out
      refine ⟨A, c, B, d, ?_, ?_, i1.mod t4 (fun ad e => safe _ (s1 ad e)), i2.mod t4 (fun ad e => safe _ (s2 ad e)), fun ad e => keep _ (s1 ad e), fun ad e => keep _ (s2 ad e), own_mod o1 t4 (fun k hk => by obtain ⟨ad, e, rfl⟩ := own_some hk; exact safe _ (s1 ad e)), own_mod o2 t4 (fun k hk => by obtain ⟨ad, e, rfl⟩ := own_some hk; exact safe _ (s2 ad e))⟩
      · rw [List.getElem?_append_left (by omega)]; exact y1
      · rw [List.getElem?_append_left (by omega)]; exact y2
    · have hje : j = ns.length := by omega
      subst hje
      rw [List.getElem_append_right (by omega)]
      simp only [Nat.sub_self, List.getElem_cons_zero]
      have hI1 : Ints w2 (some ⟨W6.heap.size, 0, none⟩) (meet o x.slots).2 := ints_blk hb2 (by rw [meet_len]; omega)
      have hI2 : Ints w3 AC x.words := Ints.of_own hC (by omega)
      have t5 : Mod (fun b => b = bo ∨ vN.ownBlock = some b) w3 (w4.setCell ⟨bo, 1, none⟩ vM) := mod_set' ((((Mod.of_below (S := fun b => b = bo ∨ vN.ownBlock = some b) (below_1 w3 ob)).trans (like_mod hl) (fun _ _ h => h.elim)).trans (Mod.of_grown hg) (fun b _ h => .inr h.symm))) (.inl rfl) _
      have zz := ht2.size
      have hAC : ∀ ad, AC = some ad → w2.heap.size ≤ ad.block ∧ ad.block < w3.heap.size := fun ad e => own_block hC _ (by rw [e]; rfl)
      have j1 : ∀ ad, some (⟨W6.heap.size, 0, none⟩ : Addr) = some ad → ¬ (ad.block = bo ∨ vN.ownBlock = some ad.block) := by
        rintro ad e (h1 | h1)
        · injection e with e; subst e; simp at h1; omega
        · injection e with e; subst e; have := zN _ h1; simp at this; omega
      have j2 : ∀ ad, AC = some ad → ¬ (ad.block = bo ∨ vN.ownBlock = some ad.block) := by
        rintro ad e (h1 | h1)
        · have := hAC ad e; omega
        · have := hAC ad e; have := zN _ h1; omega
      refine ⟨some ⟨W6.heap.size, 0, none⟩, x.slots.length, AC, cC, ?_, ?_, hI1.mod t2 j1, hI2.mod t5 j2, ?_, ?_, own_mod (show w2.ownsRow 0 3 1 (.slice (some ⟨W6.heap.size, 0, none⟩) (meet o x.slots).2.length x.slots.length) (meet o x.slots).2.length (enc ic (meet o x.slots).2) by rw [meet_len]; exact own_full hb2 (meet_len _ _) (by simp only [maxLen]; omega)) t2 (fun k hk => by obtain ⟨ad, e, rfl⟩ := own_some hk; exact j1 ad e), own_mod (own_lower hC (Nat.zero_le _)) t5 (fun k hk => by obtain ⟨ad, e, rfl⟩ := own_some hk; exact j2 ad e)⟩
      · rw [List.getElem?_append_right (by omega), show ns.length * 2 - xs.length = 0 by omega]
        simp [meet_len]
      · rw [List.getElem?_append_right (by omega), show ns.length * 2 + 1 - xs.length = 1 by omega]
        rfl
      · rintro ad e
        injection e with e
        subst e
        refine ⟨by simp; omega, by simp; omega, by simp; omega, by simp; omega, by simp; omega, ?_, ?_⟩
        · rcases hv2 with e | ⟨j, e, hj⟩
          · rw [e]; intro e; have := zO _ e; simp at this; omega
          · rw [e]; intro e; injection e with e; simp at e; omega
        · exact nM _ (by simp; omega) (fun e => by have := zN _ e; simp at this; omega)
      · rintro ad e
        have := hAC ad e
        refine ⟨by omega, by omega, by omega, by omega, by omega, ?_, ?_⟩
        · intro e; have := zO2 _ e; omega
        · exact nM _ (by omega) (fun e => by have := zN _ e; omega)
  · refine mod_below h.below t4 h.below.size ?_
    have e1 := h.hb
    have e2 := h.hp
    have e3 := h.hq
    have e4 := h.hbo
    rintro b hb (e | e | e | e | e)
    · omega
    · omega
    · omega
    · have := zO _ e; omega
    · have := zN _ e; omega
  · exact ord_meet h.ord x4


/-- A graph by value whose rows are all owned, from lo on. -/
def OwnG (lo : Nat) (w : World) (v : Value) (g : Gr) : Prop := ∃ (A : Option Addr) (a : Nat) (D : Option Addr) (d : Nat) (xs : List Value), v = .agg #[.slice A g.roots.length a, .slice D g.nodes.length d] ∧
  w.ownsRow lo 3 1 (.slice A g.roots.length a) g.roots.length (enc ic g.roots) ∧ w.ownsRow lo 55 2 (.slice D g.nodes.length d) g.nodes.length xs ∧
  ∀ j, (hj : j < g.nodes.length) → ∃ B b C c, xs[j * 2]? = some (.slice B g.nodes[j].slots.length b) ∧ xs[j * 2 + 1]? = some (.slice C g.nodes[j].words.length c) ∧
    w.ownsRow lo 3 1 (.slice B g.nodes[j].slots.length b) g.nodes[j].slots.length (enc ic g.nodes[j].slots) ∧ w.ownsRow lo 3 1 (.slice C g.nodes[j].words.length c) g.nodes[j].words.length (enc ic g.nodes[j].words)
theorem own_raise {w : World} {lo lo' e s n : Nat} {v : Value} {xs : List Value} (h : w.ownsRow lo e s v n xs) (hk : ∀ k, v.ownBlock = some k → lo' ≤ k) : w.ownsRow lo' e s v n xs := by
  obtain ⟨h1, h2⟩ := h
  refine ⟨h1, ?_⟩
  rcases h2 with h2 | ⟨g, cap, cur, rfl, hg, r⟩
  · exact .inl h2
  · exact .inr ⟨g, cap, cur, rfl, hk g rfl, r⟩
theorem num_own {w wr w' : World} {base p q bo gr lo n : Nat} {vO : Value} {AN : Option Addr} {cN : Nat} {o rs : List Int} {ns : List Nd} {xs : List Value} {b1 : Nat}
    (h : Num w wr base p q bo gr lo n vO (.slice AN ns.length cN) o rs ns xs) (hm : Mod (fun k => k = b1) wr w') (hb : b1 < lo ∧ base ≤ lo) (hrl : rs.length ≤ 17592186044416)
    (hN : (Value.slice AN ns.length cN).ownBlock ≠ some b1) :
    OwnG base w' (.agg #[.slice (some ⟨gr, 0, none⟩) rs.length rs.length, .slice AN ns.length cN]) ⟨rs, ns⟩ := by
  have hl : ∀ {A : Option Addr} {l : List Int} {c : Nat}, (∀ ad, A = some ad → Safe wr p q bo lo vO (.slice AN ns.length cN) ad.block) → wr.ownsRow 0 3 1 (.slice A l.length c) l.length (enc ic l) → w'.ownsRow base 3 1 (.slice A l.length c) l.length (enc ic l) := fun {A l c} hs ho => by
    refine own_raise (own_mod ho hm ?_) ?_
    · intro k hk e
      obtain ⟨ad, e1, rfl⟩ := own_some hk
      have := (hs ad e1).lo
      omega
    · intro k hk
      obtain ⟨ad, e1, rfl⟩ := own_some hk
      have := (hs ad e1).lo
      omega
  refine ⟨_, _, _, _, xs, rfl, hl (fun ad e => ?_) (own_full h.roots rfl (by simp only [maxLen]; omega)), own_mod h.own hm (fun k hk e => hN (by rw [← e]; exact hk)), fun j hj => ?_⟩
  · injection e with e
    subst e
    exact h.safe
  · obtain ⟨A, c, B, d, x1, x2, i1, i2, s1, s2, o1, o2⟩ := (h.built j hj).out
    exact ⟨A, c, B, d, x1, x2, hl s1 o1, hl s2 o2⟩
end Go.Proofs.YteminkohgagedaaGreat.Gr
