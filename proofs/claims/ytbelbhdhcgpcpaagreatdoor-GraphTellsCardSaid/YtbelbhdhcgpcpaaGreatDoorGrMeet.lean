/- meeter.meet. -/
import Derived.Test.YtbelbhdhcgpcpaaGreatDoorGrClone
import Derived.Test.YtbelbhdhcgpcpaaGreatDoorGrCanon
namespace Go.Proofs.YtbelbhdhcgpcpaaGreatDoor.Gr
open Go.RowKit Go.Proofs.YtbelbhdhcgpcpaaGreatDoor.Base
set_option linter.unusedVariables false
set_option linter.unusedSimpArgs false

/-- What a meeter knows. -/
structure Met (w : World) (base p q n : Nat) (vO : Value) (o : List Int) : Prop where
  blk : Blk w p 86 #[.slice (some ⟨q, 0, none⟩) (n + 1) (n + 1), vO]
  plc : Blk w q 3 (places o n)
  own : w.ownsRow base 3 1 vO o.length (enc ic o)
  apart : vO.ownBlock ≠ some q
/-- What a meeting may change. -/
def Turns (p q : Nat) (vO : Value) (k : Nat) : Prop := k = p ∨ k = q ∨ vO.ownBlock = some k

theorem met_cells {w : World} {base p q n : Nat} {vO : Value} {o : List Int} (h : Met w base p q n vO o) (a : Int) (h0 : 0 ≤ a) (h1 : a ≤ n) :
    w.cell? ⟨p, 0, none⟩ = some (.slice (some ⟨q, 0, none⟩) (n + 1) (n + 1)) ∧ w.cell? ⟨p, 1, none⟩ = some vO ∧ w.cell? ⟨q, a.toNat, none⟩ = some (.int .i64 (placeOf o a)) := by
  refine ⟨?_, ?_, ?_⟩
  · have := h.blk.cell 0; simpa using this
  · have := h.blk.cell 1; simpa using this
  · rw [h.plc.cell, places_get o n a h0 h1]

/-- The round's own row. -/
def outs (o l : List Int) (k : Nat) : Array Value := ((meet o (l.take k)).2.map (Value.int .i64) ++ List.replicate (l.length - k) (Value.int .i64 0)).toArray
theorem take_succ {l : List Int} {k : Nat} (h : k < l.length) : l.take (k + 1) = l.take k ++ [l[k]] := List.take_succ_eq_append_getElem h
theorem meet_take (o l : List Int) (k : Nat) (h : k < l.length) : meet o (l.take (k + 1)) = ((meet1 (meet o (l.take k)).1 l[k]).1, (meet o (l.take k)).2 ++ [(meet1 (meet o (l.take k)).1 l[k]).2]) := by
  rw [take_succ h, meet_snoc]
theorem outs_size (o l : List Int) (k : Nat) (h : k ≤ l.length) : (outs o l k).size = l.length := by
  simp [outs, meet_len]; omega
theorem outs_set (o l : List Int) (k : Nat) (h : k < l.length) : (outs o l k).setIfInBounds k (.int .i64 (meet1 (meet o (l.take k)).1 l[k]).2) = outs o l (k + 1) := by
  have e : l.length - k = (l.length - (k + 1)) + 1 := by omega
  unfold outs
  rw [meet_take o l k h, e, List.replicate_succ]
  apply Array.ext'
  simp only [Array.toList_setIfInBounds, List.map_append, List.map_cons, List.map_nil]
  have hl : ((meet o (l.take k)).2.map (Value.int .i64)).length = k := by rw [List.length_map, meet_len, List.length_take]; omega
  rw [List.set_append_right _ _ (by omega), hl]
  simp
theorem outs_zero (o l : List Int) (k : Nat) (h : k < l.length) (h0 : (meet1 (meet o (l.take k)).1 l[k]).2 = 0) : outs o l k = outs o l (k + 1) := by
  rw [← outs_set o l k h, h0]
  apply Array.ext
  · simp
  · intro i h1 h2
    rw [Array.getElem_setIfInBounds]
    · split
      · rename_i e
        subst e
        have hl : (meet o (l.take k)).2.length = k := by rw [meet_len, List.length_take]; omega
        simp only [outs, List.getElem_toArray]
        rw [List.getElem_append_right (by rw [List.length_map]; omega)]
        simp
      · rfl
theorem outs_start (o l : List Int) : outs o l 0 = (List.replicate l.length (Value.int .i64 0)).toArray := by simp [outs, meet]
theorem outs_end (o l : List Int) : outs o l l.length = (enc ic (meet o l).2).toArray := by simp [outs, enc_ic]

theorem made_zero (n : Nat) : madeCells #[Value.int .i64 0] n = (List.replicate n (Value.int .i64 0)).toArray := by
  apply Array.ext
  · simp [madeCells]
  · intro i h1 h2
    simp [madeCells, Nat.mod_one]
theorem make_ints (n : Nat) (h : n ≤ 17592186044417) (w : World) :
    (Instr.makeSlice 22 (.int .i64 (n : Int)) (.int .i64 (n : Int))).run Tryz.prog w = .ok (.slice (some ⟨w.heap.size, 0, none⟩) n n) (w.alloc (.cells (List.replicate n (Value.int .i64 0)).toArray 3)) := by
  have := run_make_row' (P := Tryz.prog) 22 3 (.int .i64 0) 8 Tryz.underlying22 intInfo rfl .i64 .i64 n (by omega) (by omega) w
  rw [made_zero] at this
  exact this

theorem turns_far {w : World} {base p q n : Nat} {vO : Value} {o : List Int} (h : Met w base p q n vO o) (hp : base ≤ p) (hq : base ≤ q) : ∀ b, b < base → ¬ Turns p q vO b := by
  rintro b hb (rfl | rfl | h1)
  · omega
  · omega
  · have := (own_block h.own b h1).1; omega
theorem mod_below {B : Nat} {S : Nat → Prop} {w0 w w1 : World} (h : Below B w0 w) (hm : Mod S w w1) (hB : B ≤ w.heap.size) (hs : ∀ b, b < B → ¬ S b) : Below B w0 w1 :=
  ⟨hm.os.trans h.os, hm.tape.trans h.tape, hm.output.trans h.output, Nat.le_trans h.size hm.size, fun i hi => (hm.block i (by omega) (hs i hi)).trans (h.block i hi)⟩
theorem own_far {w : World} {base e size n : Nat} {v : Value} {xs : List Value} (h : w.ownsRow base e size v n xs) {p : Addr} (hp : v.ownBlock ≠ some p.block) (u : Value) : (w.setCell p u).ownsRow base e size v n xs := by
  obtain ⟨h1, h2⟩ := h
  refine ⟨h1, ?_⟩
  rcases h2 with h2 | ⟨g, cap, cur, rfl, hg, hh, r⟩
  · exact .inl h2
  · exact .inr ⟨g, cap, cur, rfl, hg, Blk.far (w := w) hh (by simpa [Value.ownBlock] using hp) u, r⟩
theorem mod_set {S : Nat → Prop} {w w1 : World} {p : Addr} (h : Mod S w w1) (hp : w.heap.size ≤ p.block) (u : Value) : Mod S w (w1.setCell p u) := by
  have h2 : Below w1.heap.size w1 w1 := Below.refl _ _
  refine ⟨h.os, h.tape, h.output, by simpa [World.setCell] using h.size, fun i hi hn => ?_⟩
  exact (Below.heap_setCell w1 p u i (by omega)).trans (h.block i hi hn)
theorem mod_set' {S : Nat → Prop} {w w1 : World} {p : Addr} (h : Mod S w w1) (hp : S p.block) (u : Value) : Mod S w (w1.setCell p u) := by
  refine ⟨h.os, h.tape, h.output, by simpa [World.setCell] using h.size, fun i hi hn => ?_⟩
  exact (Below.heap_setCell w1 p u i (by rintro rfl; exact hn hp)).trans (h.block i hi hn)
/-- The same but for what was drawn. -/
structure Like (w w' : World) : Prop where
  heap : w'.heap = w.heap
  os : w'.os = w.os
  tape : w'.tape = w.tape
  output : w'.output = w.output
theorem like_self (w : World) : Like w w := ⟨rfl, rfl, rfl, rfl⟩
theorem like_drew {w w' : World} (h : Like w w') : Like w w'.drew := ⟨h.heap, h.os, h.tape, h.output⟩
theorem Blk.like {w w' : World} {g : Nat} {t : TypeId} {cs : Array Value} (h : Blk w g t cs) (hl : Like w w') : Blk w' g t cs := by
  unfold Blk at *
  rw [hl.heap]
  exact h
theorem Mod.like {S : Nat → Prop} {w w1 w2 : World} (h : Mod S w w1) (hl : Like w1 w2) : Mod S w w2 :=
  ⟨hl.os.trans h.os, hl.tape.trans h.tape, hl.output.trans h.output, by rw [hl.heap]; exact h.size, fun i hi hn => by rw [hl.heap]; exact h.block i hi hn⟩
theorem own_like {w w' : World} {base e size n : Nat} {v : Value} {xs : List Value} (h : w.ownsRow base e size v n xs) (hl : Like w w') : w'.ownsRow base e size v n xs := by
  obtain ⟨h1, h2⟩ := h
  refine ⟨h1, ?_⟩
  rcases h2 with h2 | ⟨g, cap, cur, rfl, hg, hh, r⟩
  · exact .inl h2
  · exact .inr ⟨g, cap, cur, rfl, hg, Blk.like (w := w) hh hl, r⟩
theorem meet1_zero (o : List Int) : meet1 o 0 = (o, 0) := by simp [meet1]
theorem meet1_old {o : List Int} {a : Int} (h0 : a ≠ 0) (h : a ∈ o) : meet1 o a = (o, placeOf o a) := by simp [meet1, h0, h]
theorem meet1_new {o : List Int} {a : Int} (h0 : a ≠ 0) (h : a ∉ o) : meet1 o a = (o ++ [a], (o.length : Int) + 1) := by simp [meet1, h0, h]

set_option maxHeartbeats 4000000 in
set_option maxRecDepth 100000 in
theorem meet_any (w0 : World) (base p q n : Nat) (vO : Value) (o l : List Int) (A : Option Addr) (c : Nat) (w : World) (hl : named l n = true) (hn : n ≤ 17592186044415) (ho : Ord o n) (hA : Ints w0 A l)
    (hb : Below w0.heap.size w0 w) (h0 : w0.heap.size ≤ base) (hp : base ≤ p) (hq : base ≤ q) (hM : Met w base p q n vO o) :
    Calls Tryz.prog 73 #[.pointer (some ⟨p, 0, none⟩), .slice A l.length c] w fun e w' => ∃ vO', e = .returned (.slice (some ⟨w.heap.size, 0, none⟩) l.length l.length) ∧
      Blk w' w.heap.size 3 (enc ic (meet o l).2).toArray ∧ Met w' base p q n vO' (meet o l).1 ∧ Mod (Turns p q vO) w w' ∧ (vO'.ownBlock = vO.ownBlock ∨ ∃ k, vO'.ownBlock = some k ∧ w.heap.size < k) := by
  obtain ⟨i0, hi0, hz0, hz1, hz2⟩ := info_parts1 intInfo
  have hsz := hA.2
  have hmk := make_ints l.length (by omega)
  have HL := Lib.hid hl
  have HO := Lib.hid ho
  have HA := Lib.hid hA
  have HB := Lib.hid hb
  have H0 := Lib.hid h0
  have HP := Lib.hid hp
  have HQ := Lib.hid hq
  have HM := Lib.hid hM
  have hp1 := hM.blk.lt
  have hq1 := hM.plc.lt
  have hpq : p ≠ q := Blk.ne_ hM.blk hM.plc (by decide)
  have hM0 : Met (w.alloc (.cells (List.replicate l.length (Value.int .i64 0)).toArray 3)) base p q n vO o :=
    ⟨hM.blk.alloc _, hM.plc.alloc _, own_below hM.own (below_1 _ _), hM.apart⟩
  have HM0 := Lib.hid hM0
  clear hl ho hA hb h0 hp hq hM hM0
  go_enter Tryz.func73, Tryz.ntmps73
  go_wp2
  go_loopw [13] (fun i wr => ∃ (k : Nat) (v : Value), k ≤ l.length ∧ i = .int .i64 k ∧ Hid (Blk wr w.heap.size 3 (outs o l k)) ∧ Hid (Met wr base p q n v (meet o (l.take k)).1) ∧ Hid (Mod (Turns p q vO) w wr) ∧
    Hid (v.ownBlock = vO.ownBlock ∨ ∃ j, v.ownBlock = some j ∧ w.heap.size < j)) (fun i _ => l.length - (intOf i).toNat)
  case atStart =>
    refine ⟨0, vO, Nat.zero_le _, rfl, ?_, ?_, Mod.of_below (below_1 _ _), .inl rfl⟩
    · rw [outs_start]; exact Blk.new _ _ _
    · exact HM0.out
  case round =>
    obtain ⟨k, v, hk, rfl, HK, HM1, HD, HV⟩ := hrel
    by_cases hlt : k < l.length
    · have hbw : Below w0.heap.size w0 wr := mod_below HB.out HD.out HB.out.size (fun b hb => turns_far HM.out HP.out HQ.out b (by have := H0.out; omega))
      obtain ⟨ad, rfl, c1⟩ := (HA.out.below hbw).at_ k hlt
      have hnm := named_get HL.out k hlt
      have HT := Lib.hid (meet_take o l k hlt)
      have HS := Lib.hid (outs_set o l k hlt)
      have HZ := Lib.hid (outs_zero o l k hlt)
      have hks : k < (outs o l k).size := by rw [outs_size o l k hk]; exact hlt
      have hkf := HK.out.frozen k
      obtain ⟨x, hx⟩ : ∃ x, wr.cell? ⟨w.heap.size, k, none⟩ = some x := ⟨_, (HK.out.cell k).trans (Array.getElem?_eq_getElem hks)⟩
      have HOrd := Lib.hid (ord_meet HO.out (named_take HL.out k))
      have hdl := ord_len HOrd.out
      generalize ho1 : (meet o (l.take k)).1 = o1 at HM1 HT HS HZ HOrd hdl
      generalize ha : l[k] = a at c1 hnm HT HS HZ
      have hpf := HM1.out.blk.frozen 1
      have hqf := HM1.out.plc.frozen a.toNat
      have hpz := HM1.out.blk.lt
      have hqz := HM1.out.plc.lt
      have hkz := HK.out.lt
      obtain ⟨c2, c3, c4⟩ := met_cells HM1.out a hnm.1 hnm.2
      obtain ⟨hn0, hn1⟩ := hnm
      clear hbw ho1 ha
      by_cases h0 : a = 0
      · subst h0
        go_wp2
        go_roundw
        case rel =>
          refine ⟨k + 1, v, by omega, by go_num, ?_, ?_, HD.out, HV.out⟩
          · show Blk _ _ _ _
            rw [← HZ.out (by rw [meet1_zero])]
            exact HK.out
          · show Met _ _ _ _ _ _ _
            rw [HT.out, meet1_zero]
            exact HM1.out
        case measure => simp [intOf]; omega
      · have e0 : (a == 0) = false := beq_eq_false_iff_ne.mpr h0
        have HA0 := Lib.hid h0
        by_cases hm : a ∈ o1
        · have HR := Lib.hid (meet1_old h0 hm)
          have h1 : placeOf o1 a ≠ 0 := fun e => (placeOf_zero.1 e) hm
          generalize placeOf o1 a = z at c4 h1 HR
          have e1 : (z == 0) = false := beq_eq_false_iff_ne.mpr h1
          clear h0 h1 hm
          go_wp2
          go_roundw
          case rel =>
            refine ⟨k + 1, v, by omega, by go_num, ?_, ?_, ?_, HV.out⟩
            · show Blk _ _ _ _
              rw [← HS.out, HR.out]
              exact HK.out.set_ _ _
            · show Met _ _ _ _ _ _ _
              rw [HT.out, HR.out]
              exact ⟨HM1.out.blk.far (by simp; omega) _, HM1.out.plc.far (by simp; omega) _, own_far HM1.out.own (by
                intro e
                simp at e
                rcases HV.out with h | ⟨j, h, hj⟩
                · rw [h] at e
                  have := (own_block HM.out.own _ e).2
                  omega
                · rw [h] at e
                  injection e with e
                  omega) _, HM1.out.apart⟩
            · exact mod_set HD.out (Nat.le_refl _) _
          case measure => simp [intOf]; omega
        · have HR := Lib.hid (meet1_new h0 hm)
          have HM' := Lib.hid hm
          have h1 : placeOf o1 a = 0 := placeOf_zero.2 hm
          rw [h1] at c4
          have hvK : v.ownBlock ≠ some w.heap.size := by
            intro e
            rcases HV.out with h | ⟨j, h, hj⟩
            · rw [h] at e
              have := (own_block HM.out.own _ e).2
              omega
            · rw [h] at e
              injection e with e
              omega
          have hvp : v.ownBlock ≠ some p := own_blk_ne HM1.out.own HM1.out.blk (by decide)
          have HvK := Lib.hid hvK
          have Hvp := Lib.hid hvp
          have hbz : base ≤ wr.heap.size := by have := HP.out; omega
          have hoz : o1.length + 1 ≤ n := by
            have h2 := ord_len (ord_meet1 HOrd.out hn0 hn1)
            rw [HR.out] at h2
            simpa using h2
          clear h0 h1 hm hvK hvp
          go_wp2_with (first | (refine wpList_append_any _ (by rfl) _ _ _ (by rfl) base 3 i0 _ 1 8 Tryz.underlying22 hi0 hz0 hz1 hz2 rfl (by omega) v o1.length _ (by rfl) (own_below HM1.out.own (below_1 _ _)) _ 1 1 _ (by rfl) (Reads.new _ _ rfl) (by simp [Value.oneCell']) (fun e => by cases e) (by simp only [maxLen]; omega) (by omega) (by simp; omega) ?_; intro v4 w4 hown4 hg4 hat4; obtain ⟨A4, cap4, rfl, hc4⟩ := own_form hown4; have hP4 := (HM1.out.blk.alloc (.cells #[.int .i64 a] 3)).mod (Mod.of_grown hg4) (fun e => Hvp.out e.symm); have hQ4 := (HM1.out.plc.alloc (.cells #[.int .i64 a] 3)).mod (Mod.of_grown hg4) (fun e => HM1.out.apart e.symm); have hK4 := (HK.out.alloc (.cells #[.int .i64 a] 3)).mod (Mod.of_grown hg4) (fun e => HvK.out e.symm); have d0 := hP4.cell 0; have d1 := hP4.cell 1; have d2 := hQ4.cell a.toNat; have d3 := hK4.cell k; have f1 := hP4.frozen 1; have f2 := hQ4.frozen a.toNat; have f3 := hK4.frozen k; rw [places_get _ n a hn0 hn1] at d2; rw [Array.getElem?_eq_getElem hks] at d3; simp at d0 d1; have HP4 := Lib.hid hP4; have HQ4 := Lib.hid hQ4; have HK4 := Lib.hid hK4; have HG4 := Lib.hid hg4; have HO4 := Lib.hid hown4; have HA4 := Lib.hid hat4; clear hP4 hQ4 hK4 hg4 hown4 hat4))
          have hv4p : (Value.slice A4 (o1.length + 1) cap4).ownBlock ≠ some p := by
            rcases HA4.out with h | h
            · rw [h]; exact Hvp.out
            · rw [h]; intro e; injection e with e; simp at e; omega
          have hv4q : (Value.slice A4 (o1.length + 1) cap4).ownBlock ≠ some q := by
            rcases HA4.out with h | h
            · rw [h]; exact HM1.out.apart
            · rw [h]; intro e; injection e with e; simp at e; omega
          have HP5 := Lib.hid (show Blk (w4.setCell ⟨p, 1, none⟩ (.slice A4 (o1.length + 1) cap4)) p 86 #[.slice (some ⟨q, 0, none⟩) (n + 1) (n + 1), .slice A4 (o1.length + 1) cap4] from HP4.out.set_ 1 _)
          have HQ5 := Lib.hid (show Blk (w4.setCell ⟨p, 1, none⟩ (.slice A4 (o1.length + 1) cap4)) q 3 (places o1 n) from HQ4.out.far (by simp; omega) _)
          have HK5 := Lib.hid (show Blk (w4.setCell ⟨p, 1, none⟩ (.slice A4 (o1.length + 1) cap4)) w.heap.size 3 (outs o l k) from HK4.out.far (by simp; omega) _)
          have HO5 := Lib.hid (show (w4.setCell ⟨p, 1, none⟩ (.slice A4 (o1.length + 1) cap4)).ownsRow base 3 1 (.slice A4 (o1.length + 1) cap4) (o1.length + 1) (enc ic o1 ++ [.int .i64 a]) from own_far HO4.out hv4p _)
          have HD5 := Lib.hid (show Mod (Turns p q vO) w (w4.setCell ⟨p, 1, none⟩ (.slice A4 (o1.length + 1) cap4)) from mod_set' ((HD.out.trans (Mod.of_below (S := fun _ => False) (below_1 wr (.cells #[.int .i64 a] 3))) (fun b _ h => h.elim)).trans (Mod.of_grown HG4.out) (by
            intro b hb h
            rcases HV.out with h2 | ⟨j, h2, hj⟩
            · exact .inr (.inr (h2 ▸ h.symm))
            · rw [h2] at h
              injection h with h
              omega)) (.inl rfl) _)
          have Hv4q := Lib.hid hv4q
          have Hv4p := Lib.hid hv4p
          have m0 := HP5.out.cell 0
          have m1 := HP5.out.cell 1
          have m2 := HQ5.out.cell a.toNat
          have m3 := HQ5.out.frozen a.toNat
          rw [places_get _ n a hn0 hn1, placeOf_zero.2 HM'.out] at m2
          simp only [List.getElem?_toArray, List.getElem?_cons_zero, List.getElem?_cons_succ] at m0 m1
          generalize hW5 : w4.setCell ⟨p, 1, none⟩ (.slice A4 (o1.length + 1) cap4) = W5 at *
          have HW5 := Lib.hid hW5
          clear hW5 hv4p hv4q d0 d1 d2 d3 f1 f2 f3
          have hn2 : a < (n : Int) + 1 := by omega
          have m4 := HK5.out.cell k
          have m5 := HK5.out.frozen k
          rw [Array.getElem?_eq_getElem hks] at m4
          go_region
          go_wp2
          go_roundw
          case rel =>
            refine ⟨k + 1, .slice A4 (o1.length + 1) cap4, by omega, by go_num, ?_, ?_, ?_, ?_⟩
            · show Blk _ _ _ _
              rw [← HS.out, HR.out]
              exact ((HK5.out.far (by simp; omega) _).drewN 1).set_ _ _
            · show Met _ _ _ _ _ _ _
              rw [HT.out, HR.out]
              refine ⟨((HP5.out.far (by simp; omega) _).drewN 1).far (by simp; omega) _, ?_, ?_, Hv4q.out⟩
              · have := HQ5.out.set_ a.toNat (.int .i64 ((o1.length : Int) + 1))
                rw [places_set o1 n a hn0 hn1 HM'.out] at this
                exact (this.drewN 1).far (by simp; omega) _
              · have hK4 : (Value.slice A4 (o1.length + 1) cap4).ownBlock ≠ some w.heap.size := by
                  rcases HA4.out with h | h
                  · rw [h]; exact HvK.out
                  · rw [h]; intro e; injection e with e; simp at e; omega
                have h1 := own_like (own_far (p := ⟨q, a.toNat, none⟩) HO5.out (by simpa using Hv4q.out) (.int .i64 ((o1.length : Int) + 1))) (like_drew (like_self _))
                have h2 := own_far (p := ⟨w.heap.size, k, none⟩) h1 (by simpa using hK4) (.int .i64 ((o1.length : Int) + 1))
                rw [List.length_append, enc_append]
                exact h2
            · exact mod_set (Mod.like (mod_set' HD5.out (.inr (.inl rfl)) _) (like_drew (like_self _))) (Nat.le_refl _) _
            · show _ ∨ _
              rcases HA4.out with h | h
              · rw [h]; exact HV.out
              · exact .inr ⟨_, h, by simp; omega⟩
          case measure => simp [intOf]; omega
    · go_wp2
      go_ret
      have hkl : k = l.length := by omega
      subst hkl
      have h1 := HK.out
      have h2 := HM1.out
      rw [outs_end] at h1
      rw [List.take_length] at h2
      exact ⟨v, rfl, h1, h2, HD.out, HV.out⟩

end Go.Proofs.YtbelbhdhcgpcpaaGreatDoor.Gr
