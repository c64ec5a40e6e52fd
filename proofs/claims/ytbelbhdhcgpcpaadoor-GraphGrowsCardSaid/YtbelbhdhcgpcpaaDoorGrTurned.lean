/- flittinglaw16.GraphTurned: its closure, its numbers. -/
import Derived.Test.YtbelbhdhcgpcpaaDoorGrTurn
import Derived.Test.YtbelbhdhcgpcpaaDoorGrTextsW
import Derived.Test.YtbelbhdhcgpcpaaDoorGrRows
namespace Go.Proofs.YtbelbhdhcgpcpaaDoor.Gr
open Go.RowKit Go.Proofs.YtbelbhdhcgpcpaaDoor.Base Go.Proofs.YtbelbhdhcgpcpaaDoor.Str
set_option linter.unusedVariables false
set_option linter.unusedSimpArgs false

/-- Where a node goes. -/
def turnI (n k : Nat) (v : Int) : Int := if v = 0 then 0 else (v - 1 + k) % n + 1
def turnNd (n k : Nat) (x : Nd) : Nd := ⟨x.slots.map (turnI n k), x.words⟩
def moreNd (n i : Nat) : Nd := ⟨[((i % n : Nat) : Int) + 1], [(i : Int)]⟩
/-- Node j of the turned graph comes from here. -/
def backI (n k j : Nat) : Nat := (j + n - k) % n
def turned (g : Gr) (k m : Nat) : Gr := ⟨g.roots.map (turnI g.nodes.length k), (List.range g.nodes.length).map (fun j => turnNd g.nodes.length k (g.nodes.getD (backI g.nodes.length k j) ⟨[], []⟩)) ++ (List.range m).map (moreNd g.nodes.length)⟩

theorem mod_two {n k a : Nat} (hk : k < n) (ha : a < n) : (a + k) % n = if a + k < n then a + k else a + k - n := by
  split
  · rename_i h; exact Nat.mod_eq_of_lt h
  · rename_i h
    rw [Nat.mod_eq_sub_mod (by omega), Nat.mod_eq_of_lt (by omega)]
theorem back_of {n k a : Nat} (hk : k < n) (ha : a < n) : backI n k ((a + k) % n) = a := by
  unfold backI
  rw [mod_two hk ha]
  split
  · rename_i h
    rw [show a + k + n - k = a + n by omega, Nat.add_mod_right, Nat.mod_eq_of_lt ha]
  · rename_i h
    rw [show a + k - n + n - k = a by omega, Nat.mod_eq_of_lt ha]
theorem back_lt {n k j : Nat} (hn : 0 < n) : backI n k j < n := Nat.mod_lt _ hn
theorem to_back {n k j : Nat} (hk : k < n) (hj : j < n) : (backI n k j + k) % n = j := by
  unfold backI
  by_cases h : j < k
  · rw [Nat.mod_eq_of_lt (show j + n - k < n by omega), show j + n - k + k = j + n by omega, Nat.add_mod_right, Nat.mod_eq_of_lt hj]
  · rw [show j + n - k = (j - k) + n by omega, Nat.add_mod_right, Nat.mod_eq_of_lt (show j - k < n by omega), show j - k + k = j by omega, Nat.mod_eq_of_lt hj]
theorem turn_nat {n k : Nat} {a : Int} (h1 : 1 ≤ a) : turnI n k a = (((a.toNat - 1 + k) % n : Nat) : Int) + 1 := by
  have : a - 1 + (k : Int) = ((a.toNat - 1 + k : Nat) : Int) := by omega
  rw [turnI, if_neg (by omega), this, Int.natCast_emod]
theorem turn_range {n k : Nat} {a : Int} (hn : 0 < n) (h0 : 0 ≤ a) : 0 ≤ turnI n k a ∧ turnI n k a ≤ n := by
  by_cases h : a = 0
  · subst h; simp [turnI]
  · rw [turn_nat (by omega)]
    have := Nat.mod_lt (a.toNat - 1 + k) hn
    omega
theorem turned_number {g : Gr} {k m : Nat} (hg : right g = true) (hk : k < g.nodes.length) : number (turned g k m) = number g := by
  refine number_turn (f := turnI g.nodes.length k) hg rfl ?_ ?_ rfl ?_ ?_
  · intro a h1 h2
    rw [turn_nat h1]; omega
  · intro a b h1 h2 h3 h4 e
    rw [turn_nat h1, turn_nat h3] at e
    have e' : (a.toNat - 1 + k) % g.nodes.length = (b.toNat - 1 + k) % g.nodes.length := by omega
    have e1 := back_of hk (show a.toNat - 1 < g.nodes.length by omega)
    have e2 := back_of hk (show b.toNat - 1 < g.nodes.length by omega)
    rw [e', e2] at e1
    omega
  · simp [turned]
  · intro a h1 h2
    have hn : 0 < g.nodes.length := by omega
    have hm := Nat.mod_lt (a.toNat - 1 + k) hn
    have hb := back_of hk (show a.toNat - 1 < g.nodes.length by omega)
    have hl : (turned g k m).nodes.length = g.nodes.length + m := by simp [turned]
    rw [turn_nat h1]
    generalize (a.toNat - 1 + k) % g.nodes.length = q at hm hb
    rw [nodeAt_eq (turned g k m) _ (by omega) (by omega)]
    have e : ((q : Int) + 1 - 1).toNat = q := by omega
    simp only [e, turned]
    rw [List.getElem_append_left (by simpa using hm), List.getElem_map, List.getElem_range, hb]
    simp only [turnNd, nodeAt]
theorem ndOk_mk {x : Nd} {n : Int} (h1 : x.slots.length ≤ 15) (h2 : x.words.length ≤ 30) (h3 : wordsOk x.words = true) (h4 : named x.slots n = true) : ndOk x n = true := by
  simp only [ndOk, Bool.and_eq_true, decide_eq_true_eq]
  exact ⟨⟨⟨h1, h2⟩, h3⟩, h4⟩
theorem turned_right {g : Gr} {k m : Nat} (hg : right g = true) (hk : k < g.nodes.length) (hm : m ≤ 20) (hn : g.nodes.length ≤ 60) : right (turned g k m) = true := by
  obtain ⟨h1, h2, h3, h4⟩ := right_parts hg
  have hlen : (turned g k m).nodes.length = g.nodes.length + m := by simp [turned]
  have hpos : 0 < g.nodes.length := by omega
  have key : ∀ l : List Int, named l g.nodes.length = true → named (l.map (turnI g.nodes.length k)) ((turned g k m).nodes.length : Int) = true := by
    intro l hl
    rw [named, List.all_eq_true] at hl ⊢
    intro v hv
    obtain ⟨u, hu, rfl⟩ := List.mem_map.1 hv
    have := hl u hu
    simp only [Bool.and_eq_true, decide_eq_true_eq] at this ⊢
    have := turn_range (n := g.nodes.length) (k := k) hpos this.1
    omega
  simp only [right, Bool.and_eq_true, decide_eq_true_eq, List.all_eq_true]
  refine ⟨⟨⟨by simp [turned, h1], by omega⟩, key _ h3⟩, ?_⟩
  intro x hx
  simp only [turned, List.mem_append, List.mem_map, List.mem_range] at hx
  rcases hx with ⟨j, hj, rfl⟩ | ⟨i, hi, rfl⟩
  · have hb := back_lt (k := k) (j := j) hpos
    have hmem : g.nodes.getD (backI g.nodes.length k j) ⟨[], []⟩ ∈ g.nodes := by
      rw [List.getD_eq_getElem?_getD, List.getElem?_eq_getElem hb]
      exact List.getElem_mem _
    obtain ⟨q1, q2, q3, q4⟩ := ndOk_parts (h4 _ hmem)
    exact ndOk_mk (by show (List.map _ _).length ≤ 15; rw [List.length_map]; exact q1) q2 q3 (key _ q4)
  · have := Nat.mod_lt i hpos
    refine ndOk_mk (by simp [moreNd]) (by simp [moreNd]) (by simp [moreNd, wordsOk]; omega) ?_
    rw [named]
    simp only [moreNd, List.all_cons, List.all_nil, Bool.and_true, Bool.and_eq_true, decide_eq_true_eq]
    omega

theorem mod_far {B : Nat} {w w' : World} (h : Below B w w') : Mod (fun b => ¬ b < B) w w' := ⟨h.os, h.tape, h.output, h.size, fun i _ hn => h.block i (by omega)⟩
theorem mod_near {B : Nat} {w w' : World} (h : Mod (fun b => ¬ b < B) w w') (hB : B ≤ w.heap.size) : Below B w w' := ⟨h.os, h.tape, h.output, h.size, fun i hi => h.block i (by omega) (by omega)⟩
/-- The closure. -/
theorem to_any (v : Int) (n k K M : Nat) (w : World) (hK : Blk w K 3 #[.int .i64 k]) (hM : Blk w M 3 #[.int .i64 n]) (hn : 0 < n) (hn2 : n ≤ 1000) (hk : k < n) (h0 : 0 ≤ v) (h1 : v ≤ 1000) :
    Calls Tryd.prog 14 #[.int .i64 v, .pointer (some ⟨K, 0, none⟩), .pointer (some ⟨M, 0, none⟩)] w fun e w' => e = .returned (.int .i64 (turnI n k v)) ∧ w' = w := by
  have c0 := hK.cell 0
  have c1 := hM.cell 0
  have z0 := hK.lt
  have z1 := hM.lt
  simp only [List.getElem?_toArray, List.getElem?_cons_zero] at c0 c1
  have hnz : ((n : Int) == 0) = false := beq_eq_false_iff_ne.mpr (by omega)
  clear hK hM
  by_cases hv : v = 0
  · subst hv
    go_enter Tryd.func14, Tryd.ntmps14
    go_wp2
    go_ret
    exact ⟨rfl, rfl⟩
  · have hvz : (v == 0) = false := beq_eq_false_iff_ne.mpr hv
    have HE := Lib.hid (show turnI n k v = (v - 1 + k) % n + 1 by rw [turnI, if_neg hv])
    have hv1 : 1 ≤ v := by omega
    have hm := Int.emod_nonneg (v - 1 + k) (b := (n : Int)) (by omega)
    have hm2 := Int.emod_lt_of_pos (v - 1 + k) (b := (n : Int)) (by omega)
    clear hv
    go_enter Tryd.func14, Tryd.ntmps14
    go_wp2
    go_ret
    refine ⟨?_, rfl⟩
    rw [HE.out]
    rfl

/-- A block of nodes as pairs of slices. -/
def pr (c : Value × Value) : List Value := [c.1, c.2]
theorem pr_len (c : Value × Value) : (pr c).length = 2 := rfl
theorem pr_get {cs : List (Value × Value)} {j : Nat} (h : j < cs.length) : (enc pr cs).toArray[j * 2]? = some cs[j].1 ∧ (enc pr cs).toArray[j * 2 + 1]? = some cs[j].2 := by
  have h0 := enc_get pr_len cs j h 0 (by omega)
  have h1 := enc_get pr_len cs j h 1 (by omega)
  simp only [List.getElem?_toArray]
  exact ⟨h0, h1⟩
theorem pr_set (cs : List (Value × Value)) (j : Nat) (c : Value × Value) (h : j < cs.length) : ((enc pr cs).toArray.setIfInBounds (j * 2) c.1).setIfInBounds (j * 2 + 1) c.2 = (enc pr (cs.set j c)).toArray := by
  apply Array.ext
  · simp [enc_len pr_len]
  · intro q h1 h2
    have hq : q < cs.length * 2 := by simpa [enc_len pr_len] using h2
    have e : q / 2 * 2 + q % 2 = q := by omega
    have hd : q / 2 < cs.length := by omega
    have g1 := enc_get pr_len cs (q / 2) hd (q % 2) (by omega)
    have g2 := enc_get pr_len (cs.set j c) (q / 2) (by simpa using hd) (q % 2) (by omega)
    rw [e] at g1 g2
    have k2 : (enc pr (cs.set j c)).toArray[q]? = (pr ((cs.set j c)[q / 2]'(by simpa using hd)))[q % 2]? := by simpa using g2
    rw [Array.getElem?_eq_getElem h2] at k2
    have k1 : (((enc pr cs).toArray.setIfInBounds (j * 2) c.1).setIfInBounds (j * 2 + 1) c.2)[q]? = (pr ((cs.set j c)[q / 2]'(by simpa using hd)))[q % 2]? := by
      rw [Array.getElem?_setIfInBounds, Array.getElem?_setIfInBounds]
      simp only [Array.size_setIfInBounds, List.size_toArray, enc_len pr_len, List.getElem?_toArray]
      by_cases hj : q / 2 = j
      · subst hj
        rw [List.getElem_set_self]
        rcases Nat.mod_two_eq_zero_or_one q with hm | hm
        · rw [hm]
          have : ¬ q / 2 * 2 + 1 = q := by omega
          have h3 : q / 2 * 2 = q := by omega
          rw [if_neg this, if_pos h3, if_pos (by omega)]
          rfl
        · rw [hm]
          have h3 : q / 2 * 2 + 1 = q := by omega
          rw [if_pos h3, if_pos (by omega)]
          rfl
      · rw [List.getElem_set_ne (fun e => hj e.symm)]
        have n1 : ¬ j * 2 + 1 = q := by omega
        have n2 : ¬ j * 2 = q := by omega
        simp only [n1, n2, if_false]
        exact g1
    rw [Array.getElem?_eq_getElem h1] at k1
    exact Option.some.inj (k1.trans k2.symm)
theorem pr_made (n : Nat) : madeCells #[Value.slice none 0 0, Value.slice none 0 0] (n * 2) = (enc pr (List.replicate n (Value.slice none 0 0, Value.slice none 0 0))).toArray := by
  apply Array.ext
  · simp [madeCells, enc_len pr_len]
  · intro q h1 h2
    have hq : q < n * 2 := by simpa [madeCells] using h1
    have hd : q / 2 < (List.replicate n ((Value.slice none 0 0, Value.slice none 0 0) : Value × Value)).length := by simp; omega
    have g := enc_get pr_len (List.replicate n ((Value.slice none 0 0, Value.slice none 0 0) : Value × Value)) (q / 2) hd (q % 2) (by omega)
    rw [show q / 2 * 2 + q % 2 = q by omega, List.getElem_replicate] at g
    have k : (enc pr (List.replicate n ((Value.slice none 0 0, Value.slice none 0 0) : Value × Value))).toArray[q]? = (pr (Value.slice none 0 0, Value.slice none 0 0))[q % 2]? := by simpa using g
    rw [Array.getElem?_eq_getElem h2] at k
    have k2 : (madeCells #[Value.slice none 0 0, Value.slice none 0 0] (n * 2))[q]? = (pr (Value.slice none 0 0, Value.slice none 0 0))[q % 2]? := by
      rcases Nat.mod_two_eq_zero_or_one q with hm | hm <;> simp [madeCells, hq, hm, pr]
    rw [Array.getElem?_eq_getElem h1] at k2
    exact Option.some.inj (k2.trans k.symm)
theorem make_nodes (n : Nat) (h : n ≤ 1000) (w : World) :
    (Instr.makeSlice 23 (.int .i64 (n : Int)) (.int .i64 (n : Int))).run Tryd.prog w = .ok (.slice (some ⟨w.heap.size, 0, none⟩) n n) (w.alloc (.cells (enc pr (List.replicate n (Value.slice none 0 0, Value.slice none 0 0))).toArray 32)) := by
  obtain ⟨i, hi, hz, hs, hb⟩ := info_parts1 nodeInfo
  have hr := run_make (P := Tryd.prog) w 23 32 i _ Tryd.underlying23 hi hz .i64 .i64 n n (by omega) (Int.le_refl _) (by rw [hb]; omega) (by omega)
  simp only [Int.toNat_natCast, hs] at hr
  rw [← pr_made]
  exact hr

/-- The node that comes to place j. -/
def backNd (g : Gr) (k j : Nat) : Nd := turnNd g.nodes.length k (g.nodes.getD (backI g.nodes.length k j) ⟨[], []⟩)
/-- Which places are filled. -/
def Filled (w : World) (hot : Nat → Prop) (g : Gr) (k i : Nat) (cs : List (Value × Value)) : Prop :=
  cs.length = g.nodes.length ∧ ∀ j, (h : j < cs.length) → backI g.nodes.length k j < i → ∃ A c B d, cs[j] = (.slice A (backNd g k j).slots.length c, .slice B (backNd g k j).words.length d) ∧ CInts w hot 0 A (backNd g k j).slots ∧ CInts w hot 0 B (backNd g k j).words
theorem Filled.step {w w' : World} {hot hot' S : Nat → Prop} {g : Gr} {k i : Nat} {cs : List (Value × Value)} (h : Filled w hot g k i cs) (hm : Mod S w w') (hS : ∀ b, b < w.heap.size → S b → hot b ∨ b < 0) (hh : ∀ k, hot' k → hot k ∨ w.heap.size ≤ k) : Filled w' hot' g k i cs :=
  ⟨h.1, fun j hj hb => by
    obtain ⟨A, c, B, d, e, h1, h2⟩ := h.2 j hj hb
    exact ⟨A, c, B, d, e, h1.step hm hS hh, h2.step hm hS hh⟩⟩
theorem Filled.put {w : World} {hot : Nat → Prop} {g : Gr} {k i : Nat} {cs : List (Value × Value)} (h : Filled w hot g k i cs) (hk : k < g.nodes.length) (hi : i < g.nodes.length) {A B : Option Addr} {c d sl wl : Nat} (hsl : sl = (turnNd g.nodes.length k g.nodes[i]).slots.length) (hwl : wl = g.nodes[i].words.length)
    (hA : CInts w hot 0 A (turnNd g.nodes.length k g.nodes[i]).slots) (hB : CInts w hot 0 B g.nodes[i].words) : Filled w hot g k (i + 1) (cs.set ((i + k) % g.nodes.length) (.slice A sl c, .slice B wl d)) := by
  subst hsl hwl
  refine ⟨by rw [List.length_set]; exact h.1, fun j hj hb => ?_⟩
  rw [List.length_set] at hj
  have hjn : j < g.nodes.length := by rw [← h.1]; exact hj
  by_cases e : (i + k) % g.nodes.length = j
  · subst e
    rw [List.getElem_set_self]
    have hb2 := back_of hk hi
    have e2 : backNd g k ((i + k) % g.nodes.length) = turnNd g.nodes.length k g.nodes[i] := by
      unfold backNd
      rw [hb2, List.getD_eq_getElem?_getD, List.getElem?_eq_getElem hi]
      rfl
    rw [e2]
    exact ⟨A, c, B, d, rfl, hA, hB⟩
  · rw [List.getElem_set_ne e]
    refine h.2 j hj ?_
    have : backI g.nodes.length k j ≠ i := fun e' => e (by rw [← e']; exact to_back hk hjn)
    omega

end Go.Proofs.YtbelbhdhcgpcpaaDoor.Gr
