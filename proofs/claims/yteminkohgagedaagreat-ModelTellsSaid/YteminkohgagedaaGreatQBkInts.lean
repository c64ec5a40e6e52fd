/- The book's functions over lists of one kind: marks, lists that are written, grown, looked at. Printed by gen_book.py. -/
import Derived.Test.YteminkohgagedaaGreatQBkNil
import Derived.Test.YteminkohgagedaaGreatQGrClone
namespace Go.Proofs.YteminkohgagedaaGreat.BkInts
open Go.RowKit Go.Proofs.YteminkohgagedaaGreat.Base Go.Proofs.YteminkohgagedaaGreat.Bk Go.Proofs.YteminkohgagedaaGreat.Gr
set_option linter.unusedVariables false
set_option linter.unusedSimpArgs false

def mk (i k : Nat) : Int := -1000000 * (i : Int) - (k : Int) - 7
def marks (i fr n : Nat) : List Int := (List.range n).map fun k => mk i (fr + k)
theorem marks_len (i fr n : Nat) : (marks i fr n).length = n := by simp [marks]
theorem marks_succ (i fr n : Nat) : marks i fr (n + 1) = marks i fr n ++ [mk i (fr + n)] := by simp [marks, List.range_succ]
theorem marks_get (i fr n k : Nat) (h : k < n) : (marks i fr n)[k]? = some (mk i (fr + k)) := by simp [marks, h]
theorem marks_append (i fr n m : Nat) : marks i fr n ++ marks i (fr + n) m = marks i fr (n + m) := by
  induction m with
  | zero => simp [marks]
  | succ m ih => rw [marks_succ, ← List.append_assoc, ih, ← Nat.add_assoc, marks_succ, Nat.add_assoc]
theorem sliceInfo : (Tryz.prog.info? 22).map (fun i => (i.zero, i.size, i.bytes)) = some (some (.slice none 0 0), 1, 24) := by kernel_rfl
abbrev kd (w : World) (vK : Value) (vs : List Value) (c : Nat → List Int) : Prop := Kd w Gr.ic 3 22 1 vK vs c
abbrev rd (w : World) (vK : Value) (vs : List Value) (c : Nat → List Int) : Prop := Rd w Gr.ic 22 1 vK vs c

theorem below_new (w : World) (o : Obj) : Below w.heap.size w (w.alloc o) := (Below.refl _ _).alloc (Nat.le_refl _) _
theorem reads_mk (w : World) (i k : Nat) (h : True) (cs : Array Value) (hcs : cs = #[.int .i64 (-1000000 * (i : Int) - (k : Int) - 7)]) : Reads (w.alloc (.cells cs 3)) 1 (some ⟨w.heap.size, 0, none⟩) 1 (Gr.ic (mk i k)) := by
  subst hcs
  exact Reads.new w _ rfl
theorem ints_same (A B : Option Addr) (l m : List Int) (c d : Nat) (w : World) (hl : Arr w Gr.ic 1 A l) (hm : Arr w Gr.ic 1 B m) (hn : l.length ≤ 100000) :
    Calls Tryz.prog 40 #[.slice A l.length c, .slice B m.length d] w fun e w' => e = .returned (.bool (decide (l = m))) ∧ Below w.heap.size w w' := by
  by_cases h : l.length = m.length
  case neg =>
    rw [decide_eq_false (fun e => h (by rw [e]))]
    have hb : ((l.length : Int) != m.length) = true := bne_iff_ne.mpr (by omega)
    clear hl hm h
    go_enter Tryz.func40, Tryz.ntmps40
    go_wp2
    go_ret
    exact ⟨rfl, Below.refl _ _⟩
  have HL := Lib.hid hl
  have HM := Lib.hid hm
  have hb : ((l.length : Int) != m.length) = false := by simp [h]
  have HE := Lib.hid h
  have hle : l.length ≤ m.length := by omega
  clear hl hm h
  go_enter Tryz.func40, Tryz.ntmps40
  go_wp2
  go_loopw [5] (fun i wr => ∃ k : Nat, k ≤ l.length ∧ i = .int .i64 k ∧ Hid (Below w.heap.size w wr) ∧ Hid (∀ j, (hj : j < k) → l[j]? = m[j]?)) (fun i _ => l.length - (intOf i).toNat)
  case atStart => exact ⟨0, Nat.zero_le _, rfl, Below.refl _ _, fun j hj => absurd hj (by omega)⟩
  case round =>
    obtain ⟨k, hk, rfl, HB, HP⟩ := hrel
    by_cases hlt : k < l.length
    · obtain ⟨ad, rfl, d1⟩ := (HL.out.below HB.out).at_ Gr.ic_len k hlt (by omega)
      obtain ⟨ad2, rfl, d2⟩ := (HM.out.below HB.out).at_ Gr.ic_len k (by omega) (by omega)
      replace d1 := d1 0 _ rfl
      replace d2 := d2 0 _ rfl
      rw [Nat.mul_one, Nat.add_zero] at d1 d2
      have hmlt : k < m.length := by omega
      by_cases he : l[k] = m[k]
      · have hb2 : (l[k] == m[k]) = true := beq_iff_eq.mpr he
        have HX := Lib.hid he
        rw [he] at d1 hb2
        clear he
        go_wp2_with fail
        go_quiet (fail)
        go_wp2
        go_roundw
        case rel =>
          refine ⟨k + 1, by omega, by go_num, HB.out.trans (below_drewN (Below.refl _ _) _), fun j hj => ?_⟩
          rcases Nat.lt_or_ge j k with h | h
          · exact HP.out j h
          · obtain rfl : j = k := by omega
            rw [List.getElem?_eq_getElem hlt, List.getElem?_eq_getElem hmlt, HX.out]
        case measure => simp [intOf]; omega
      · have hb2 : (l[k] == m[k]) = false := beq_eq_false_iff_ne.mpr he
        have HX := Lib.hid he
        clear he
        go_wp2_with fail
        go_quiet (fail)
        go_wp2
        go_ret
        refine ⟨ret_bool (decide_eq_false (fun e => HX.out ?_)).symm, HB.out.trans (below_drewN (Below.refl _ _) _)⟩
        subst e
        rfl
    · go_wp2
      go_ret
      refine ⟨ret_bool (decide_eq_true (List.ext_getElem? fun j => ?_)).symm, HB.out⟩
      rcases Nat.lt_or_ge j k with h | h
      · exact HP.out j h
      · have := HE.out
        rw [List.getElem?_eq_none (by omega), List.getElem?_eq_none (by omega)]
set_option maxRecDepth 100000 in
theorem mark_any (i fr n : Nat) (hi : i ≤ 1000) (hfr : fr ≤ 200000) (hn : n ≤ 100000) (w : World) :
    Calls Tryz.prog 91 #[.int .i64 (i : Int), .int .i64 (fr : Int), .int .i64 (n : Int)] w fun e w' => ∃ A c, e = .returned (.slice A n c) ∧ w'.ownsRow w.heap.size 3 1 (.slice A n c) n (enc Gr.ic (marks i fr n)) ∧ Below w.heap.size w w' := by
  obtain ⟨i0, hi0, hz0, hz1, hz2⟩ := Gr.info_parts1 Gr.intInfo
  go_enter Tryz.func91, Tryz.ntmps91
  go_wp2
  go_loopw [7, 8] (fun o q wr => ∃ (j : Nat), j ≤ n ∧ q = .int .i64 ((fr : Int) + (j : Int)) ∧ Hid (wr.ownsRow w.heap.size 3 1 o j (enc Gr.ic (marks i fr j))) ∧ Hid (Below w.heap.size w wr)) (fun o q _ => fr + n - (intOf q).toNat)
  case atStart => exact ⟨0, Nat.zero_le _, by simp, Lib.hid (own_nil _ _ _ _), Lib.hid (Below.refl _ _)⟩
  case round =>
    obtain ⟨j, hj, rfl, HO, HB⟩ := hrel
    by_cases hlt : j < n
    · have hzw := HB.out.size
      have hm := marks_succ i fr j
      have d1 : decide ((fr : Int) + (j : Int) < (fr : Int) + (n : Int)) = true := decide_eq_true (by omega)
      obtain ⟨A0, c0, rfl, hc0⟩ := own_form HO.out
      go_wp2_with (first
        | (at_builtin
           refine wpList_append_any _ rfl (.tmp 17) (.tmp 23) _ rfl w.heap.size 3 i0 _ 1 8 Tryz.underlying22 hi0 hz0 hz1 hz2 rfl (by omega) (.slice A0 j c0) j (enc Gr.ic (marks i fr j)) rfl
             (own_below HO.out (below_new _ _)) (some ⟨wr.heap.size, 0, none⟩) 1 1 (Gr.ic (mk i (fr + j))) (by rfl) (reads_mk wr i (fr + j) trivial _ (by simp)) (by simpa [enc] using Gr.ic_one [mk i (fr + j)]) (fun e => by cases e) (by simp only [maxLen]; omega) (by omega) (by simp; omega) ?_
           intro v2 w2 hown2 hg2 hat2))
      have HB2 := Lib.hid (show Below w.heap.size w w2 from (HB.out.trans ((Below.refl _ _).alloc hzw _)).grown hg2 (by simp; omega) (fun k hk => (own_block HO.out k hk).1))
      have HO2 := Lib.hid hown2
      clear hown2 hg2 hat2
      go_roundw
      case rel =>
        refine ⟨j + 1, by omega, by go_num, ?_, HB2⟩
        show World.ownsRow _ _ _ _ _ _ _
        rw [hm, enc_append]
        simpa [enc] using HO2.out
      case measure => simp [intOf]; omega
    · obtain rfl : j = n := by omega
      obtain ⟨A, c, rfl, hc⟩ := own_form HO.out
      have d1 : decide ((fr : Int) + (j : Int) < (fr : Int) + (j : Int)) = false := decide_eq_false (by omega)
      go_wp2
      go_ret
      exact ⟨A, c, rfl, HO.out, HB.out⟩

theorem mark_at (i fr n : Nat) (a b : Int) (ha : a = (fr : Int)) (hb : b = (n : Int)) (hi : i ≤ 1000) (hfr : fr ≤ 200000) (hn : n ≤ 100000) (w : World) :
    Calls Tryz.prog 91 #[.int .i64 (i : Int), .int .i64 a, .int .i64 b] w fun e w' => ∃ A c, e = .returned (.slice A n c) ∧ w'.ownsRow w.heap.size 3 1 (.slice A n c) n (enc Gr.ic (marks i fr n)) ∧ Below w.heap.size w w' := by
  subst ha hb
  exact mark_any i fr n hi hfr hn w
theorem mark0_any (i n : Nat) (hi : i ≤ 1000) (hn : n ≤ 100000) (w : World) :
    Calls Tryz.prog 91 #[.int .i64 (i : Int), .int .i64 0, .int .i64 (n : Int)] w fun e w' => ∃ A c, e = .returned (.slice A n c) ∧ w'.ownsRow w.heap.size 3 1 (.slice A n c) n (enc Gr.ic (marks i 0 n)) ∧ Below w.heap.size w w' := mark_any i 0 n hi (by omega) hn w

def mix (c : Nat → List Int) (j i : Nat) : List Int := if i < j then marks i 0 (c i).length else c i
theorem mix_self (c : Nat → List Int) (j : Nat) : mix c j j = c j := if_neg (by omega)
theorem mix_len (c : Nat → List Int) (j i : Nat) : (mix c j i).length = (c i).length := by unfold mix; split; exact marks_len _ _ _; rfl
def inner (c : Nat → List Int) (j k i : Nat) : List Int := if i = j then (marks j 0 (c j).length).take k ++ (c j).drop k else mix c j i
theorem inner_zero (c : Nat → List Int) (j i : Nat) : mix c j i = inner c j 0 i := by
  unfold inner
  split
  · rename_i e; subst e; simp [mix_self]
  · rfl
theorem inner_all (c : Nat → List Int) (j i : Nat) : inner c j (c j).length i = mix c (j + 1) i := by
  unfold inner mix
  by_cases e : i = j
  · subst e
    rw [if_pos rfl, if_pos (by omega), List.drop_length, List.append_nil, List.take_of_length_le (by rw [marks_len]; omega)]
  · rw [if_neg e]
    by_cases h : i < j
    · rw [if_pos h, if_pos (by omega)]
    · rw [if_neg h, if_neg (by omega)]
theorem inner_len (c : Nat → List Int) (j k i : Nat) (hk : k ≤ (c j).length) : (inner c j k i).length = (c i).length := by
  unfold inner
  split
  · rename_i e; subst e
    rw [List.length_append, List.length_take, List.length_drop, marks_len]; omega
  · exact mix_len _ _ _

set_option maxHeartbeats 2000000 in
theorem put_any (X : Nat) (cs : Array Value) (vs : List Value) (c : Nat → List Int) (AK : Option Addr) (cK : Nat) (w : World) (hX : Blk w X 39 cs) (hc : cs[2]? = some (.slice AK vs.length cK)) (hk : kd w (.slice AK vs.length cK) vs c) (hv : vs.length ≤ 250) (hl : ∀ i, (c i).length ≤ 100000) :
    Calls Tryz.prog 53 #[.pointer (some ⟨X, 0, none⟩)] w fun e w' => e = .returned (.tuple #[]) ∧ kd w' (.slice AK vs.length cK) vs (fun i => marks i 0 (c i).length) ∧ Mod (InVs vs) w w' := by
  have hXn : ¬ InVs vs X := by
    rintro ⟨v, hv, hb⟩
    obtain ⟨i, hi⟩ := List.mem_iff_getElem?.1 hv
    exact own_blk_ne (hk.own i v hi) hX (by decide) hb
  have HX := Lib.hid (show ∀ W, Mod (InVs vs) w W → W.cell? ⟨X, 2, none⟩ = some (.slice AK vs.length cK) ∧ X < W.heap.size from fun W hm => by
    have h := hX.mod hm hXn
    exact ⟨(h.cell 2).trans hc, h.lt⟩)
  have HK0 := Lib.hid hk
  have HL := Lib.hid hl
  clear hX hc hk hl hXn
  go_enter Tryz.func53, Tryz.ntmps53
  go_wp2
  go_loopw [2] (fun q wr => ∃ j : Nat, j ≤ vs.length ∧ q = .int .i64 (j : Int) ∧ Hid (kd wr (.slice AK vs.length cK) vs (mix c j)) ∧ Hid (Mod (InVs vs) w wr)) (fun q _ => vs.length - (intOf q).toNat)
  case atStart => exact ⟨0, Nat.zero_le _, rfl, Lib.hid (HK0.out.congr (fun i hi => by unfold mix; rw [if_neg (by omega)])), Lib.hid (Mod.refl _ _)⟩
  case round =>
    obtain ⟨j, hj, rfl, HK, HM⟩ := hrel
    obtain ⟨x0, x1⟩ := HX.out _ HM.out
    by_cases hlt : j < vs.length
    · obtain ⟨gK, B, q, hAK, r0, -, hi⟩ := (HK.out.rd).at_ rfl hlt
      rw [mix_self] at r0 hi
      have HI := Lib.hid hi
      have zr := cell_lt r0
      have hn := HL.out j
      have HAK := Lib.hid hAK
      rw [hAK] at x0
      have HMK := Lib.hid (mark0_any j (c j).length (by omega) hn wr)
      clear hi hAK
      go_wp2_with fail
      refine (HMK.out).mono ?_
      rintro e w1 ⟨A1, q1, rfl, hown1, hb1⟩
      have HO1 := Lib.hid hown1
      have HK1 := Lib.hid (HK.out.below hb1)
      have HM1 := Lib.hid (mod_below HM.out hb1)
      have HZ := Lib.hid hb1.size
      clear hown1 hb1 x0 x1 r0 zr
      go_wp2_with fail
      go_loopw [4] (fun q' wi => ∃ k : Nat, k ≤ (c j).length ∧ q' = .int .i64 (k : Int) ∧ Hid (kd wi (.slice AK vs.length cK) vs (inner c j k)) ∧ Hid (wi.ownsRow wr.heap.size 3 1 (.slice A1 (c j).length q1) (c j).length (enc Gr.ic (marks j 0 (c j).length))) ∧ Hid (Mod (InVs vs) w wi)) (fun q' _ => (c j).length - (intOf q').toNat)
      case atStart => exact ⟨0, Nat.zero_le _, rfl, Lib.hid (HK1.out.congr (fun i _ => inner_zero c j i)), HO1, HM1⟩
      case round =>
        obtain ⟨k, hk, rfl, HKi, HOi, HMi⟩ := hrel
        by_cases hkl : k < (c j).length
        · obtain ⟨x2, x3⟩ := HX.out _ HMi.out
          rw [HAK.out] at x2
          have hrow := HKi.out.row
          rw [HAK.out] at hrow
          obtain ⟨g0, e0, ⟨k0, e1⟩, z1, r1, -⟩ := own_cell hrow HI.out
          injection e1 with e1 _ e1c
          injection e1 with e1
          injection e1 with e1 _ _
          subst e1
          subst e1c
          have hown := HKi.out.own j _ HI.out
          rw [inner_len c j k j hk] at hown
          have hcur : inner c j k j = (marks j 0 (c j).length).take k ++ (c j).drop k := if_pos rfl
          have hlen := inner_len c j k j hk
          have hmk := marks_get j 0 (c j).length k hkl
          rw [Nat.zero_add] at hmk
          have hset := take_drop_set (c := c j) (by rw [marks_len]) hmk
          rw [← hcur] at hset
          have hbound : k < (enc Gr.ic (inner c j k j)).length := by rw [enc_len Gr.ic_len, hlen]; omega
          obtain ⟨gB, f1, ⟨q2, f2⟩, f3, f4, f5⟩ := own_cell hown (List.getElem?_eq_getElem hbound)
          injection f2 with f2 _ f2c
          subst f2
          subst f2c
          have hmc : (enc Gr.ic (marks j 0 (c j).length))[k]? = some (.int .i64 (-1000000 * (j : Int) - (k : Int) - 7)) := by
            have h1 := enc_get Gr.ic_len (marks j 0 (c j).length) k (by rw [marks_len]; exact hkl) 0 (by omega)
            rw [Nat.mul_one, Nat.add_zero] at h1
            rw [h1]
            rw [List.getElem?_eq_getElem (by rw [marks_len]; exact hkl)] at hmk
            injection hmk with hmk
            rw [hmk]; rfl
          obtain ⟨gA, a1, ⟨q3, a2⟩, a3, a4, -⟩ := own_cell HOi.out hmc
          injection a2 with a2 _ a2c
          subst a2
          subst a2c
          have HNEW := Lib.hid (show ∀ W, Mod (fun b => some gB = some b) wr W → W.ownsRow 0 3 1 (.slice (some ⟨gB, 0, none⟩) (c j).length q) (inner c j (k + 1) j).length (enc Gr.ic (inner c j (k + 1) j)) → kd W (.slice AK vs.length cK) vs (inner c j (k + 1)) from fun W hm ho =>
            (HKi.out.turn (by decide) HI.out hm ho).congr (fun i _ => by
              by_cases e : i = j
              · subst e; rw [if_pos rfl]
              · rw [if_neg e]; unfold inner; rw [if_neg e, if_neg e]))
          have HO4 := Lib.hid (own_set (q := k) (u := .int .i64 (-1000000 * (j : Int) - (k : Int) - 7)) hown f1 hbound)
          have HE4 := Lib.hid (enc_set1 Gr.ic_len (inner c j k j) k (mk j k) (a := .int .i64 (-1000000 * (j : Int) - (k : Int) - 7)) rfl)
          have HST := Lib.hid (show (inner c j k j).set k (mk j k) = inner c j (k + 1) j from hset.trans (by unfold inner; rw [if_pos rfl]))
          have HGA := Lib.hid (show gA ≠ gB from fun e => by
            have h1 := (own_block HOi.out gA a1).1
            have h2 := (own_block (HK.out.own j _ HI.out) gB f1).2
            omega)
          replace f4 : ∃ u, wr.cell? ⟨gB, k, none⟩ = some u := ⟨_, f4⟩
          obtain ⟨y0, f4⟩ := f4
          have hkn : (c j).length ≤ 100000 := hn
          clear hrow hown hcur hlen hmk hset hbound hmc f1 a1
          go_wp2_with fail
          go_region
          go_wp2_with fail
          go_roundw
          case rel =>
            have hm := mod_set1 wr gB k (.int .i64 (-1000000 * (j : Int) - (k : Int) - 7))
            have ho := HO4.out
            rw [HE4.out, HST.out, ← inner_len c j (k + 1) j (by omega)] at ho
            rw [inner_len c j (k + 1) j (by omega)] at ho
            have hk2 := HNEW.out _ hm (by rw [inner_len c j (k + 1) j (by omega)]; exact ho)
            have hr2 := own_mod HOi.out hm (fun b hb e => by
              injection e with e
              have : gA = b := by simpa [Value.ownBlock] using hb
              exact HGA.out (by omega))
            have hM2 := HMi.out.trans hm (fun b hb e => InVs.of_get HI.out (by rw [← e]; rfl))
            refine ⟨k + 1, by omega, by go_num, ?_, ?_, ?_⟩
            · show Kd _ _ _ _ _ _ _ _
              exact hk2.below (Below.refl _ _).drew
            · show World.ownsRow _ _ _ _ _ _ _
              exact hr2
            · show Mod _ _ _
              exact mod_below hM2 (Below.refl _ _).drew
          case measure => simp [intOf]; omega
        · go_wp2_with fail
          go_roundw
          case rel =>
            have hke : k = (c j).length := by omega
            subst hke
            exact ⟨j + 1, by omega, by go_num, Lib.hid (HKi.out.congr (fun i _ => inner_all c j i)), HMi⟩
          case measure => simp [intOf]; omega
    · have hje : j = vs.length := by omega
      subst hje
      go_wp2_with fail
      go_end0
      exact ⟨rfl, HK.out.congr (fun i hi => by unfold mix; rw [if_pos hi]), HM.out⟩

/-! ### lists that grow -/
/-- j of them have grown. -/
structure GS (w wr : World) (vK : Value) (vs us : List Value) (c : Nat → List Int) (j : Nat) (o : Value) : Prop where
  row : wr.ownsRow w.heap.size 22 1 o j us
  grown : ∀ (i : Nat) (u : Value), us[i]? = some u → wr.ownsRow 0 3 1 u ((c i).length + 72) (enc Gr.ic (c i ++ marks i (c i).length 72)) ∧ ∀ b, u.ownBlock = some b → (w.heap.size ≤ b ∨ ∃ v, vs[i]? = some v ∧ v.ownBlock = some b)
  old : wr.ownsRow 0 22 1 vK vs.length vs
  done : ∀ (i : Nat) (v : Value), vs[i]? = some v → i < j → ∃ A k, v = .slice A (c i).length k ∧ Arr wr Gr.ic 1 A (c i)
  todo : ∀ (i : Nat) (v : Value), vs[i]? = some v → j ≤ i → wr.ownsRow 0 3 1 v (c i).length (enc Gr.ic (c i))
  mod : Mod (InVs vs) w wr
theorem GS.start {w : World} {vK : Value} {vs : List Value} {c : Nat → List Int} (h : kd w vK vs c) : GS w w vK vs [] c 0 (.slice none 0 0) :=
  ⟨own_nil _ _ _ _, fun i u h => by simp at h, h.row, fun i v _ h => by omega, fun i v hi _ => h.own i v hi, Mod.refl _ _⟩
theorem GS.step {w wr w1 w' : World} {vK v l o o' : Value} {vs us : List Value} {c : Nat → List Int} {j : Nat} {ob : Obj} (h : GS w wr vK vs us c j o) (hk : kd w vK vs c) (hv : vs[j]? = some v)
    (hg : Gw wr w1 3 1 v l (c j).length ((c j).length + 72) (enc Gr.ic (c j)) (enc Gr.ic (c j ++ marks j (c j).length 72)))
    (ho : w'.ownsRow w.heap.size 22 1 o' (j + 1) (us ++ [l])) (hgr : (w1.alloc ob).grownBy w' o.ownBlock) : GS w w' vK vs (us ++ [l]) c (j + 1) o' := by
  have hlen : us.length = j := by have := h.row.1; simpa using this
  have hvb : ∀ b, v.ownBlock = some b → b < w.heap.size := fun b hb => hk.block b (InVs.of_get hv hb)
  have hob : ∀ b, o.ownBlock = some b → w.heap.size ≤ b := fun b hb => (own_block h.row b hb).1
  have hapart : ∀ i u, i ≠ j → vs[i]? = some u → ∀ b, u.ownBlock = some b → v.ownBlock ≠ some b := by
    intro i u hi hu b hb he
    rcases Nat.lt_or_ge i j with hlt | hge
    · exact hk.apart i j u v hlt hu hv b hb he
    · exact hk.apart j i v u (by omega) hv hu b he hb
  have hm1 : Mod (fun b => some b = o.ownBlock) w1 w' := by
    have h1 : Mod (fun b => some b = o.ownBlock) w1 (w1.alloc ob) := Mod.of_below ((Below.refl _ _).alloc (Nat.le_refl _) _)
    exact h1.trans (Mod.of_grown hgr) (fun _ _ h => h)
  have hsz := h.mod.size
  refine ⟨ho, ?_, ?_, ?_, ?_, ?_⟩
  · intro i u hu
    by_cases hij : i < j
    · rw [List.getElem?_append_left (by omega)] at hu
      obtain ⟨h1, h2⟩ := h.grown i u hu
      refine ⟨own_mod (own_mod h1 hg.mod (fun b hb hS => ?_)) hm1 (fun b hb hS => ?_), h2⟩
      · rcases h2 b hb with h3 | ⟨q, h3, h4⟩
        · have := hvb b hS; omega
        · exact hapart i q (by omega) h3 b h4 hS
      · exact own_type h1 h.row (by decide) b hb hS.symm
    · have hi : i = j := by
        have : i < (us ++ [l]).length := by
          rcases Nat.lt_or_ge i (us ++ [l]).length with h | h
          · exact h
          · rw [List.getElem?_eq_none h] at hu; cases hu
        rw [List.length_append] at this
        simp at this
        omega
      subst hi
      rw [List.getElem?_append_right (by omega), hlen, Nat.sub_self] at hu
      injection hu with hu
      subst hu
      refine ⟨own_mod hg.own hm1 (fun b hb hS => ?_), fun b hb => ?_⟩
      · have h3 : w1.ownsRow w.heap.size 22 1 o i us := own_mod h.row hg.mod (fun q hq hS' => by
          have := hvb q hS'
          have := hob q hq
          omega)
        exact own_type hg.own h3 (by decide) b hb hS.symm
      · rcases hg.spot with rfl | ⟨h3, _⟩ | ⟨q, h3, h4⟩
        · exact .inr ⟨_, hv, hb⟩
        · exact .inr ⟨_, hv, by rw [← h3]; exact hb⟩
        · rw [h3] at hb; injection hb with hb; exact .inl (by omega)
  · refine own_mod (own_mod h.old hg.mod (fun b hb hS => ?_)) hm1 (fun b hb hS => ?_)
    · exact hk.rowApart (by decide) b hb (InVs.of_get hv hS)
    · have := hk.rowBlock b hb
      have := hob b hS.symm
      omega
  · intro i u hu hi
    by_cases hij : i < j
    · obtain ⟨A, k, rfl, hr⟩ := h.done i u hu hij
      refine ⟨A, k, rfl, reads_mod (reads_mod hr hg.mod (fun ad e hS => ?_)) hm1 (fun ad e hS => ?_)⟩
      · exact hapart i _ (by omega) hu ad.block (by rw [e]; rfl) hS
      · have := hk.block ad.block (InVs.of_get hu (by rw [e]; rfl))
        have := hob _ hS.symm
        omega
    · have hi : i = j := by omega
      subst hi
      rw [hv] at hu
      injection hu with hu
      subst hu
      obtain ⟨A, k, rfl, _⟩ := own_form (h.todo i _ hv (Nat.le_refl _))
      refine ⟨A, k, rfl, reads_mod (hg.old A k rfl) hm1 (fun ad e hS => ?_)⟩
      have := hvb ad.block (by rw [e]; rfl)
      have := hob _ hS.symm
      omega
  · intro i u hu hi
    refine own_mod (own_mod (h.todo i u hu (by omega)) hg.mod (fun b hb hS => ?_)) hm1 (fun b hb hS => ?_)
    · exact hapart i u (by omega) hu b hb hS
    · have := hk.block b (InVs.of_get hu hb)
      have := hob b hS.symm
      omega
  · refine (h.mod.trans hg.mod (fun b _ hS => InVs.of_get hv hS)).trans hm1 (fun b hb hS => ?_)
    have := hob b hS.symm
    omega

set_option maxRecDepth 100000 in
set_option maxHeartbeats 4000000 in
theorem grow_any (X : Nat) (cs : Array Value) (vs : List Value) (c : Nat → List Int) (AK : Option Addr) (cK : Nat) (w : World) (hX : Blk w X 39 cs) (hc : cs[2]? = some (.slice AK vs.length cK)) (hk : kd w (.slice AK vs.length cK) vs c) (hv : vs.length ≤ 250) (hl : ∀ i, (c i).length ≤ 100000) :
    Calls Tryz.prog 58 #[.pointer (some ⟨X, 0, none⟩)] w fun e w' => ∃ o us, e = .returned o ∧ us.length = vs.length ∧ GS w w' (.slice AK vs.length cK) vs us c vs.length o := by
  have hXn : ¬ InVs vs X := by
    rintro ⟨v, hv, hb⟩
    obtain ⟨i, hi⟩ := List.mem_iff_getElem?.1 hv
    exact own_blk_ne (hk.own i v hi) hX (by decide) hb
  have HX := Lib.hid (show ∀ W, Mod (InVs vs) w W → W.cell? ⟨X, 2, none⟩ = some (.slice AK vs.length cK) ∧ X < W.heap.size from fun W hm => by
    have h := hX.mod hm hXn
    exact ⟨(h.cell 2).trans hc, h.lt⟩)
  have HK0 := Lib.hid hk
  have HL := Lib.hid hl
  clear hX hc hk hl hXn
  obtain ⟨i0, hi0, hz0, hz1, hz2⟩ := Gr.info_parts1 Gr.intInfo
  obtain ⟨i1, hi1, hz10, hz11, hz12⟩ := info_parts sliceInfo
  go_enter Tryz.func58, Tryz.ntmps58
  go_wp2
  go_loopw [3, 4] (fun o q wr => ∃ (j : Nat) (us : List Value), j ≤ vs.length ∧ q = .int .i64 (j : Int) ∧ us.length = j ∧ Hid (GS w wr (.slice AK vs.length cK) vs us c j o)) (fun _ q _ => vs.length - (intOf q).toNat)
  case atStart => exact ⟨0, [], Nat.zero_le _, rfl, rfl, Lib.hid (GS.start HK0.out)⟩
  case round =>
    obtain ⟨j, us, hj, rfl, hus, HG⟩ := hrel
    obtain ⟨x0, x1⟩ := HX.out _ HG.out.mod
    by_cases hlt : j < vs.length
    · obtain ⟨v, hv'⟩ : ∃ v, vs[j]? = some v := ⟨_, List.getElem?_eq_getElem hlt⟩
      have hown := HG.out.todo j v hv' (Nat.le_refl _)
      obtain ⟨gK, e0, ⟨k0, e1⟩, z1, r1, -⟩ := own_cell HG.out.old hv'
      injection e1 with e1 _ e1c
      subst e1c
      have hAK := Lib.hid e1
      rw [e1] at x0
      obtain ⟨B, q, rfl, hBq⟩ := own_form hown
      have HI := Lib.hid hv'
      have HO := Lib.hid hown
      have hn := HL.out j
      obtain ⟨A0, c0, rfl, hc0⟩ := own_form HG.out.row
      clear hown hv' e1
      obtain ⟨wj, hwj⟩ : ∃ wj, wj = wr := ⟨_, rfl⟩
      subst hwj
      have HROW := Lib.hid (show ∀ W, Mod (fun b => (Value.slice B (c j).length q).ownBlock = some b) wj W → W.ownsRow w.heap.size 22 1 (.slice A0 j c0) j us from fun W hm => own_mod HG.out.row hm (fun b hb hS => by
        have h1 := HK0.out.block b (InVs.of_get HI.out hS)
        have h2 := (own_block HG.out.row b hb).1
        omega))
      have hszj := HG.out.mod.size
      go_wp2_with fail
      go_loopw [5, 6] (fun l q' wi => ∃ (k : Nat) (Al : Option Addr) (cl : Nat), k ≤ 12 ∧ q' = .int .i64 (k : Int) ∧ l = .slice Al ((c j).length + k) cl ∧ Hid (Gw wj wi 3 1 (.slice B (c j).length q) (.slice Al ((c j).length + k) cl) (c j).length ((c j).length + k) (enc Gr.ic (c j)) (enc Gr.ic (c j ++ marks j (c j).length k)))) (fun _ q' _ => 12 - (intOf q').toNat)
      case atStart => exact ⟨0, B, q, by omega, rfl, rfl, Lib.hid (by simpa [marks] using Gw.start HO.out)⟩
      case round =>
        obtain ⟨k, Al, cl, hk, rfl, rfl, HW⟩ := hrel
        by_cases hk12 : k < 12
        · have HMK := Lib.hid (fun (a b : Int) (ha : a = (((c j).length + k : Nat) : Int)) (hb : b = ((1 : Nat) : Int)) => mark_at j ((c j).length + k) 1 a b ha hb (by omega) (by omega) (by omega) wr)
          go_wp2_with fail
          refine (HMK.out _ _ (by omega) rfl).mono ?_
          rintro e w1 ⟨A1, q1, rfl, hown1, hb1⟩
          obtain ⟨gA, rfl⟩ := own_some hown1 (by omega)
          have HW1 := Lib.hid (HW.out.below hb1)
          have hr1 := (own_reads hown1).2
          clear hown1 hb1
          go_wp2_with (first
            | (at_builtin
               refine wpList_append_kept _ rfl (.tmp 27) (.tmp 31) _ rfl 0 3 i0 _ 1 8 Tryz.underlying22 hi0 hz0 hz1 hz2 rfl (by omega) (.slice Al ((c j).length + k) cl) ((c j).length + k) _ (by rfl) HW1.out.own ⟨gA, 0, none⟩ 1 q1 _ (by rfl) hr1 (Gr.ic_one _) (by simp only [maxLen]; omega) (by omega) (Nat.zero_le _) (by omega) ?_
               intro v2 w2 hown2 hg2 hat2))
          have HG2 := Lib.hid (HW1.out.app hown2 hg2 hat2 HO.out)
          obtain ⟨A2, c2, rfl, hc2⟩ := own_form hown2
          clear hown2 hg2 hat2
          go_roundw
          case rel =>
            refine ⟨k + 1, A2, c2, by omega, by go_num, rfl, ?_⟩
            show Gw _ _ _ _ _ _ _ _ _ _
            have h := HG2.out
            rw [← enc_append, List.append_assoc, marks_append] at h
            exact h
          case measure => simp [intOf]; omega
        · have hk12' : k = 12 := by omega
          subst hk12'
          have HMK := Lib.hid (fun (a b : Int) (ha : a = (((c j).length + 12 : Nat) : Int)) (hb : b = ((60 : Nat) : Int)) => mark_at j ((c j).length + 12) 60 a b ha hb (by omega) (by omega) (by omega) wr)
          go_wp2_with fail
          refine (HMK.out _ _ (by omega) rfl).mono ?_
          rintro e w1 ⟨A1, q1, rfl, hown1, hb1⟩
          obtain ⟨gA, rfl⟩ := own_some hown1 (by omega)
          have HW1 := Lib.hid (HW.out.below hb1)
          have hr1 := (own_reads hown1).2
          clear hown1 hb1
          go_wp2_with (first
            | (at_builtin
               refine wpList_append_kept _ rfl (.tmp 34) (.tmp 38) _ rfl 0 3 i0 _ 1 8 Tryz.underlying22 hi0 hz0 hz1 hz2 rfl (by omega) (.slice Al ((c j).length + 12) cl) ((c j).length + 12) _ (by rfl) HW1.out.own ⟨gA, 0, none⟩ 60 q1 _ (by rfl) hr1 (Gr.ic_one _) (by simp only [maxLen]; omega) (by omega) (Nat.zero_le _) (by omega) ?_
               intro v2 w2 hown2 hg2 hat2
               have HG2 := Lib.hid (HW1.out.app hown2 hg2 hat2 HO.out)
               obtain ⟨A2, c2, rfl, hc2⟩ := own_form hown2
               have hrow2 := HROW.out _ HG2.out.mod
               have hsz2 := HG2.out.mod.size
               clear hown2 hg2 hat2)
            | (at_builtin
               refine wpList_append_any _ rfl (.tmp 33) (.tmp 40) _ rfl w.heap.size 22 i1 _ 1 24 Tryz.underlying33 hi1 hz10 hz11 hz12 rfl (by omega) (.slice A0 j c0) j us (by rfl) (own_below hrow2 (below_new _ _)) _ 1 1 _ (by rfl) (Reads.new _ _ rfl) (by simp [Value.oneCell']) (fun e => by cases e) (by simp only [maxLen]; omega) (by omega) (by simp; omega) ?_
               intro v3 w3 hown3 hg3 hat3))
          have h := HG2.out
          rw [← enc_append, List.append_assoc, marks_append] at h
          have hs := Lib.hid (GS.step HG.out HK0.out HI.out h hown3 hg3)
          clear hown3 hg3 hat3 h hrow2
          go_roundw
          case rel =>
            refine ⟨j + 1, us ++ [.slice A2 ((c j).length + 12 + 60) c2], by omega, by go_num, by simp [hus], ?_⟩
            show GS _ _ _ _ _ _ _ _
            exact hs.out
          case measure => simp [intOf]; omega
    · have hje : j = vs.length := by omega
      subst hje
      obtain ⟨A0, c0, rfl, hc0⟩ := own_form HG.out.row
      go_wp2_with fail
      go_ret
      exact ⟨_, us, rfl, hus, HG.out⟩

/-! ### lists that are looked at -/
theorem same_yes (A B : Option Addr) (l : List Int) (c d : Nat) (w : World) (hl : Arr w Gr.ic 1 A l) (hm : Arr w Gr.ic 1 B l) (hn : l.length ≤ 100000) :
    Calls Tryz.prog 40 #[.slice A l.length c, .slice B l.length d] w fun e w' => e = .returned (.bool true) ∧ Below w.heap.size w w' := by
  have h := ints_same A B l l c d w hl hm hn
  rw [decide_eq_true rfl] at h
  exact h

set_option maxRecDepth 100000 in
set_option maxHeartbeats 2000000 in
theorem marked_any (A : Option Addr) (k : Nat) (vs : List Value) (n : Nat → Nat) (w : World) (hr : rd w (.slice A vs.length k) vs (fun i => marks i 0 (n i))) (hv : vs.length ≤ 250) (hn : ∀ i, n i ≤ 100000) :
    Calls Tryz.prog 64 #[.slice A vs.length k] w fun e w' => e = .returned (.bool true) ∧ Below w.heap.size w w' := by
  have HR := Lib.hid hr
  have HN := Lib.hid hn
  clear hr hn
  go_enter Tryz.func64, Tryz.ntmps64
  go_wp2
  go_loopw [3] (fun q wr => ∃ j : Nat, j ≤ vs.length ∧ q = .int .i64 (j : Int) ∧ Hid (Below w.heap.size w wr)) (fun q _ => vs.length - (intOf q).toNat)
  case atStart => exact ⟨0, Nat.zero_le _, rfl, Lib.hid (Below.refl _ _)⟩
  case round =>
    obtain ⟨j, hj, rfl, HB⟩ := hrel
    by_cases hlt : j < vs.length
    · obtain ⟨g, B, q, hA, r0, hB, -⟩ := (HR.out.below HB.out).at_ rfl hlt
      rw [marks_len] at r0
      obtain ⟨nj, hnj⟩ : ∃ nj, n j = nj := ⟨_, rfl⟩
      have hnj1 := HN.out j
      rw [hnj] at r0 hB hnj1
      have HBB := Lib.hid hB
      have z0 := cell_lt r0
      subst hA
      clear hB hnj
      go_wp2_with fail
      go_region_held3 (fun W => W.cell? ⟨g, j, none⟩ = some (.slice B nj q) ∧ Below wr.heap.size wr W)
        (first
          | exact ⟨hc, hD⟩
          | exact ⟨r0, (Below.refl _ _).drew⟩
          | go_keep)
        (first
          | (go_at_call 40
             revert ho5
             intro ho5
             have hsm := same_yes B A5 (marks j 0 nj) q q5 w5 (HBB.out.below hD) (by rw [Arr, marks_len]; exact (own_reads ho5).2) (by rw [marks_len]; exact hnj1)
             rw [marks_len] at hsm
             refine hsm.mono ?_
             rintro e w6 ⟨rfl, hb6⟩
             have hc : w6.cell? ⟨g, j, none⟩ = some (.slice B nj q) := (hb6.cell (cell_lt hc)).trans hc
             replace hD := below_then hD hb6)
          | (go_at_call 91
             refine (mark0_any j nj (by omega) hnj1 _).mono ?_
             rintro e w5 ⟨A5, q5, rfl, ho5, hb5⟩
             have hD : Below wr.heap.size wr w5 := (Below.refl _ _).drew.trans hb5
             have hc : w5.cell? ⟨g, j, none⟩ = some (.slice B nj q) := (hD.cell z0).trans r0))
      have HD := Lib.hid hD
      clear hD hc ho5 hb5
      go_wp2_with fail
      go_roundw
      case rel => exact ⟨j + 1, by omega, by go_num, Lib.hid (below_then HB.out HD.out)⟩
      case measure => simp [intOf]; omega
    · have hje : j = vs.length := by omega
      subst hje
      go_wp2_with fail
      go_ret
      exact ⟨rfl, HB.out⟩

set_option maxRecDepth 100000 in
set_option maxHeartbeats 2000000 in
theorem still_any (X : Nat) (cs : Array Value) (vs was : List Value) (c : Nat → List Int) (AK AW : Option Addr) (cK cW : Nat) (w : World) (hX : Blk w X 39 cs) (h1 : cs[2]? = some (.slice AK vs.length cK)) (h2 : cs[3]? = some (.slice AW was.length cW))
    (hk : rd w (.slice AK vs.length cK) vs c) (hw : rd w (.slice AW was.length cW) was c) (hwl : was.length = vs.length) (hv : vs.length ≤ 250) (hl : ∀ i, (c i).length ≤ 100000) :
    Calls Tryz.prog 46 #[.pointer (some ⟨X, 0, none⟩)] w fun e w' => e = .returned (.bool true) ∧ Below w.heap.size w w' := by
  have HK := Lib.hid hk
  have HW := Lib.hid hw
  have HL := Lib.hid hl
  have x0 := (hX.cell 2).trans h1
  have x1 := (hX.cell 3).trans h2
  have x2 := hX.lt
  have HX := Lib.hid (show ∀ W, Below w.heap.size w W → W.cell? ⟨X, 2, none⟩ = some (.slice AK vs.length cK) ∧ W.cell? ⟨X, 3, none⟩ = some (.slice AW was.length cW) ∧ X < W.heap.size from fun W hb =>
    ⟨(hb.cell (p := ⟨X, 2, none⟩) x2).trans x0, (hb.cell (p := ⟨X, 3, none⟩) x2).trans x1, Nat.lt_of_lt_of_le x2 hb.size⟩)
  clear hk hw hl hX h1 h2 x0 x1 x2
  go_enter Tryz.func46, Tryz.ntmps46
  go_wp2
  go_loopw [3] (fun q wr => ∃ j : Nat, j ≤ vs.length ∧ q = .int .i64 (j : Int) ∧ Hid (Below w.heap.size w wr)) (fun q _ => vs.length - (intOf q).toNat)
  case atStart => exact ⟨0, Nat.zero_le _, rfl, Lib.hid (Below.refl _ _)⟩
  case round =>
    obtain ⟨j, hj, rfl, HB⟩ := hrel
    obtain ⟨x0, x1, x2⟩ := HX.out _ HB.out
    by_cases hlt : j < vs.length
    · obtain ⟨g, B, q, hA, r0, hB, -⟩ := (HK.out.below HB.out).at_ rfl hlt
      obtain ⟨g', B', q', hA', r0', hB', -⟩ := (HW.out.below HB.out).at_ rfl (by omega : j < was.length)
      have hwlt : (j : Int) < was.length := by omega
      have hn := HL.out j
      have HSM := Lib.hid (fun (W : World) (hb : Below wr.heap.size wr W) => same_yes B B' (c j) q q' W (hB.below hb) (hB'.below hb) hn)
      subst hA hA'
      clear hB hB'
      have z0 := cell_lt r0
      have z1 := cell_lt r0'
      go_wp2_with fail
      go_region_held3 (fun W => W.cell? ⟨X, 2, none⟩ = some (.slice (some ⟨g, 0, none⟩) vs.length cK) ∧ W.cell? ⟨X, 3, none⟩ = some (.slice (some ⟨g', 0, none⟩) was.length cW) ∧ W.cell? ⟨g, j, none⟩ = some (.slice B (c j).length q) ∧ W.cell? ⟨g', j, none⟩ = some (.slice B' (c j).length q'))
        (first
          | exact ⟨x0, x1, r0, r0'⟩
          | exact hS
          | go_keep)
        (first
          | (go_at_call 40
             refine (HSM.out _ (Below.refl _ _).drew).mono ?_
             rintro e w6 ⟨rfl, hb6⟩
             have hD : Below wr.heap.size wr w6 := (Below.refl _ _).drew.trans hb6
             have hS : w6.cell? ⟨X, 2, none⟩ = some (.slice (some ⟨g, 0, none⟩) vs.length cK) ∧ w6.cell? ⟨X, 3, none⟩ = some (.slice (some ⟨g', 0, none⟩) was.length cW) ∧ w6.cell? ⟨g, j, none⟩ = some (.slice B (c j).length q) ∧ w6.cell? ⟨g', j, none⟩ = some (.slice B' (c j).length q') :=
               ⟨(hD.cell (p := ⟨X, 2, none⟩) x2).trans x0, (hD.cell (p := ⟨X, 3, none⟩) x2).trans x1, (hD.cell (p := ⟨g, j, none⟩) z0).trans r0, (hD.cell (p := ⟨g', j, none⟩) z1).trans r0'⟩))
      have HD := Lib.hid hD
      clear hD hS hb6
      go_wp2_with fail
      go_roundw
      case rel => exact ⟨j + 1, by omega, by go_num, Lib.hid (below_then HB.out HD.out)⟩
      case measure => simp [intOf]; omega
    · have hje : j = vs.length := by omega
      subst hje
      go_wp2_with fail
      go_ret
      exact ⟨rfl, HB.out⟩

theorem copy_own (A : Option Addr) (l : List Int) (c : Nat) (w : World) (hr : Arr w Gr.ic 1 A l) (hl : l.length ≤ 100000) :
    Calls Tryz.prog 31 #[.slice A l.length c] w fun e w' => ∃ v, e = .returned v ∧ w'.ownsRow w.heap.size 3 1 v l.length (enc Gr.ic l) ∧ Below w.heap.size w w' := by
  obtain ⟨i0, hi0, hz0, hz1, hz2⟩ := Gr.info_parts1 Gr.intInfo
  go_enter Tryz.func31, Tryz.ntmps31
  go_wp2_with (first
    | (at_builtin
       refine wpList_append_any _ rfl (.const (.slice none 0 0)) (.tmp 3) _ rfl w.heap.size 3 i0 _ 1 8 Tryz.underlying22 hi0 hz0 hz1 hz2 rfl (by omega) (.slice none 0 0) 0 [] rfl
         (own_nil _ _ _ _) A l.length c (enc Gr.ic l) rfl hr (Gr.ic_one l) (fun e => hr.len Gr.ic_len (by omega) e) (by simp only [maxLen]; omega) (by omega) (Nat.le_refl _) ?_
       intro v1 w1 hown1 hg1 hat1))
  go_ret
  refine ⟨v1, rfl, by simpa using hown1, (Below.refl _ _).grown hg1 (Nat.le_refl _) (by simp [Value.ownBlock])⟩
/-! ### what a book holds of this kind; one list more -/
structure BK (w : World) (X : Nat) (cs : Array Value) (vs was : List Value) (c : Nat → List Int) (AK AW : Option Addr) (cK cW : Nat) : Prop where
  k0 : cs[2]? = some (.slice AK vs.length cK)
  k1 : cs[3]? = some (.slice AW was.length cW)
  kept : kd w (.slice AK vs.length cK) vs c
  was_ : kd w (.slice AW was.length cW) was c
  len : was.length = vs.length
  rows : ∀ b, (Value.slice AK vs.length cK).ownBlock = some b → (Value.slice AW was.length cW).ownBlock ≠ some b
theorem BK.below {w w' : World} {X : Nat} {cs : Array Value} {vs was : List Value} {c : Nat → List Int} {AK AW : Option Addr} {cK cW : Nat} (h : BK w X cs vs was c AK AW cK cW) (hb : Below w.heap.size w w') : BK w' X cs vs was c AK AW cK cW :=
  ⟨h.k0, h.k1, h.kept.below hb, h.was_.below hb, h.len, h.rows⟩
/-- The lists with one more. -/
def more (c : Nat → List Int) (m : Nat) (l : List Int) (i : Nat) : List Int := if i = m then l else c i
theorem kd_more {w w1 w' : World} {ob : Obj} {AK : Option Addr} {cK : Nat} {vs : List Value} {c : Nat → List Int} {v v' : Value} {l : List Int} (h : kd w (.slice AK vs.length cK) vs c) (hv : w1.ownsRow 0 3 1 v l.length (enc Gr.ic l)) (hb : Below w.heap.size w w1)
    (hn : ∀ b, v.ownBlock = some b → ¬ InVs vs b) (ho : w'.ownsRow 0 22 1 v' (vs.length + 1) (vs ++ [v])) (hg : (w1.alloc ob).grownBy w' (Value.slice AK vs.length cK).ownBlock) : kd w' v' (vs ++ [v]) (more c vs.length l) := by
  have hm : Mod (fun b => some b = (Value.slice AK vs.length cK).ownBlock) w1 w' := by
    have h1 : Mod (fun b => some b = (Value.slice AK vs.length cK).ownBlock) w1 (w1.alloc ob) := Mod.of_below ((Below.refl _ _).alloc (Nat.le_refl _) _)
    exact h1.trans (Mod.of_grown hg) (fun _ _ h => h)
  have h1 := Kd.below h hb
  have hget : ∀ i u, (vs ++ [v])[i]? = some u → (i < vs.length ∧ vs[i]? = some u) ∨ (i = vs.length ∧ u = v) := by
    intro i u hu
    by_cases hi : i < vs.length
    · rw [List.getElem?_append_left hi] at hu; exact .inl ⟨hi, hu⟩
    · rw [List.getElem?_append_right (by omega)] at hu
      have : i - vs.length = 0 := by
        rcases Nat.eq_zero_or_pos (i - vs.length) with h | h
        · exact h
        · rw [List.getElem?_eq_none (by simp; omega)] at hu; cases hu
      rw [this] at hu
      injection hu with hu
      exact .inr ⟨by omega, hu.symm⟩
  refine ⟨by rw [List.length_append]; exact ho, fun i u hu => ?_, fun i j u u' hij hu hu' b hb1 hb2 => ?_⟩
  · rcases hget i u hu with ⟨hi, hu⟩ | ⟨rfl, rfl⟩
    · have e : more c vs.length l i = c i := if_neg (by omega)
      rw [e]
      exact own_mod (h1.own i u hu) hm (fun b hb hS => own_type (h1.own i u hu) h1.row (by decide) b hb hS.symm)
    · have e : more c vs.length l vs.length = l := if_pos rfl
      rw [e]
      exact own_mod hv hm (fun b hb hS => own_type hv h1.row (by decide) b hb hS.symm)
  · rcases hget i u hu with ⟨hi, hu1⟩ | ⟨rfl, rfl⟩
    · rcases hget j u' hu' with ⟨hj, hu2⟩ | ⟨rfl, rfl⟩
      · exact h.apart i j u u' hij hu1 hu2 b hb1 hb2
      · exact hn b hb2 (InVs.of_get hu1 hb1)
    · rcases hget j u' hu' with ⟨hj, hu'⟩ | ⟨rfl, rfl⟩
      · omega
      · omega

theorem book_cells {cs : Array Value} {i j : Nat} {x y a b : Value} (h0 : cs[i]? = some x) (h1 : cs[j]? = some y) (hij : i ≠ j) : ((cs.setIfInBounds i a).setIfInBounds j b)[i]? = some a ∧ ((cs.setIfInBounds i a).setIfInBounds j b)[j]? = some b := by
  have hi : i < cs.size := by
    rcases Nat.lt_or_ge i cs.size with h | h
    · exact h
    · rw [Array.getElem?_eq_none h] at h0; cases h0
  have hj : j < cs.size := by
    rcases Nat.lt_or_ge j cs.size with h | h
    · exact h
    · rw [Array.getElem?_eq_none h] at h1; cases h1
  constructor
  · rw [Array.getElem?_setIfInBounds_ne hij.symm, Array.getElem?_setIfInBounds_self_of_lt hi]
  · rw [Array.getElem?_setIfInBounds_self_of_lt (by simpa using hj)]
/-- What such a call leaves. -/
def Added (w w' : World) (X : Nat) (cs : Array Value) (vs was : List Value) (c : Nat → List Int) (AK AW : Option Addr) (cK cW : Nat) (A : Option Addr) (q : Nat) (l : List Int) : Prop :=
  ∃ (AK' AW' : Option Addr) (cK' cW' : Nat) (v2 : Value),
      Blk w' X 39 ((cs.setIfInBounds 2 (.slice AK' (vs.length + 1) cK')).setIfInBounds 3 (.slice AW' (was.length + 1) cW')) ∧
      BK w' X ((cs.setIfInBounds 2 (.slice AK' (vs.length + 1) cK')).setIfInBounds 3 (.slice AW' (was.length + 1) cW')) (vs ++ [.slice A l.length q]) (was ++ [v2]) (more c vs.length l) AK' AW' cK' cW' ∧
      Mod (fun b => b = X ∨ (Value.slice AK vs.length cK).ownBlock = some b ∨ (Value.slice AW was.length cW).ownBlock = some b) w w' ∧
      (∀ b, (Value.slice AK' (vs.length + 1) cK').ownBlock = some b → (Value.slice AK vs.length cK).ownBlock = some b ∨ w.heap.size ≤ b) ∧
      (∀ b, (Value.slice AW' (was.length + 1) cW').ownBlock = some b → (Value.slice AW was.length cW).ownBlock = some b ∨ w.heap.size ≤ b)
/-- All that the last append and the last store do. -/
theorem add_end {X : Nat} {cs : Array Value} {vs was : List Value} {c : Nat → List Int} {AW A1 A3 A4 A : Option Addr} {cW k1 k3 k4 q : Nat} {l : List Int} {w w2 w3 w4 : World} {S0 : Nat → Prop} {x y : Value}
    (h0 : cs[2]? = some x) (h1 : cs[3]? = some y) (hlen : was.length = vs.length) (HX4 : Blk w4 X 39 (cs.setIfInBounds 2 (.slice A1 (vs.length + 1) k1))) (HM2 : Mod S0 w w2)
    (HK2 : kd w2 (.slice A1 (vs.length + 1) k1) (vs ++ [.slice A l.length q]) (more c vs.length l)) (HW2 : kd w2 (.slice AW was.length cW) was c) (HX2 : Blk w2 X 39 (cs.setIfInBounds 2 (.slice A1 (vs.length + 1) k1)))
    (HR2 : ∀ b, (Value.slice A1 (vs.length + 1) k1).ownBlock = some b → (Value.slice AW was.length cW).ownBlock ≠ some b) (HD3 : Below w2.heap.size w2 w3) (HO3 : w3.ownsRow w2.heap.size 3 1 (.slice A3 l.length k3) l.length (enc Gr.ic l))
    (HO4 : w4.ownsRow 0 22 1 (.slice A4 (was.length + 1) k4) (was.length + 1) (was ++ [.slice A3 l.length k3])) (HG4 : (w3.alloc (.cells #[.slice A3 l.length k3] 22)).grownBy w4 (Value.slice AW was.length cW).ownBlock)
    (HA4 : (Value.slice A4 (was.length + 1) k4).ownBlock = (Value.slice AW was.length cW).ownBlock ∨ (Value.slice A4 (was.length + 1) k4).ownBlock = some (w3.alloc (.cells #[.slice A3 l.length k3] 22)).heap.size) :
    Blk (w4.setCell ⟨X, 3, none⟩ (.slice A4 (was.length + 1) k4)) X 39 ((cs.setIfInBounds 2 (.slice A1 (vs.length + 1) k1)).setIfInBounds 3 (.slice A4 (was.length + 1) k4)) ∧
    BK (w4.setCell ⟨X, 3, none⟩ (.slice A4 (was.length + 1) k4)) X ((cs.setIfInBounds 2 (.slice A1 (vs.length + 1) k1)).setIfInBounds 3 (.slice A4 (was.length + 1) k4)) (vs ++ [.slice A l.length q]) (was ++ [.slice A3 l.length k3]) (more c vs.length l) A1 A4 k1 k4 ∧
    Mod (fun b => b = X ∨ S0 b ∨ (Value.slice AW was.length cW).ownBlock = some b) w (w4.setCell ⟨X, 3, none⟩ (.slice A4 (was.length + 1) k4)) := by
  have hm4 : Mod (fun b => (Value.slice AW was.length cW).ownBlock = some b) w2 w4 := (mod_below (Mod.of_below HD3) (below_new w3 _)).trans (Mod.of_grown HG4) (fun b _ hS => hS.symm)
  have hset := mod_set1 w4 X 3 (.slice A4 (was.length + 1) k4)
  obtain ⟨e0, e1⟩ := book_cells (a := .slice A1 (vs.length + 1) k1) (b := .slice A4 (was.length + 1) k4) h0 h1 (by decide)
  have hz := HD3.size
  have hk4 : kd w4 (.slice A1 (vs.length + 1) k1) (vs ++ [.slice A l.length q]) (more c vs.length l) :=
    Kd.mod HK2 hm4 (fun b hb hS => HR2 b hb hS) (fun b hb hS => by
      obtain ⟨v, hv, hb⟩ := hb
      obtain ⟨i, hi⟩ := List.mem_iff_getElem?.1 hv
      exact own_type (HK2.own i v hi) HW2.row (by decide) b hb hS)
  have hw4 : kd w4 (.slice A4 (was.length + 1) k4) (was ++ [.slice A3 l.length k3]) (more c was.length l) :=
    kd_more HW2 (own_zero HO3) HD3 (fun b hb hS => by
      have := (own_block HO3 b hb).1
      have := HW2.block b hS
      omega) HO4 HG4
  have hx : ∀ {vK : Value} {vs' : List Value} {c' : Nat → List Int}, kd w4 vK vs' c' → kd (w4.setCell ⟨X, 3, none⟩ (.slice A4 (was.length + 1) k4)) vK vs' c' := fun {vK vs' c'} h =>
    Kd.mod h hset (fun b hb hS => by
      injection hS with hS
      subst hS
      exact own_blk_ne h.row HX4 (by decide) hb) (fun b hb hS => by
      injection hS with hS
      subst hS
      obtain ⟨v, hv, hb⟩ := hb
      obtain ⟨i, hi⟩ := List.mem_iff_getElem?.1 hv
      exact own_blk_ne (h.own i v hi) HX4 (by decide) hb)
  refine ⟨HX4.set_ 3 _, ⟨by rw [List.length_append]; exact e0, by rw [List.length_append]; exact e1, ?_, ?_, by simp [hlen], ?_⟩, ?_⟩
  · rw [List.length_append]; exact hx hk4
  · rw [List.length_append, ← hlen]; exact hx hw4
  · intro b hb e
    rw [List.length_append] at hb e
    rcases HA4 with h | h
    · exact HR2 b hb (h ▸ e)
    · have h1 := (own_block HK2.row b hb).2
      have : some b = some (w3.alloc (.cells #[.slice A3 l.length k3] 22)).heap.size := e.symm.trans h
      injection this with this
      simp at this
      omega
  · refine ((HM2.mono (fun b _ h => .inr (.inl h))).trans hm4 (fun b _ hS => .inr (.inr hS))).trans hset (fun b _ hS => .inl ?_)
    injection hS with hS
    exact hS.symm
theorem reads_drew' {w : World} {s n : Nat} {A : Option Addr} {xs : List Value} (h : Reads w s A n xs) : Reads w.drew s A n xs := h
set_option maxRecDepth 100000 in
set_option maxHeartbeats 4000000 in
theorem add_any (X : Nat) (cs : Array Value) (vs was : List Value) (c : Nat → List Int) (AK AW : Option Addr) (cK cW : Nat) (A : Option Addr) (q : Nat) (l : List Int) (w : World) (hX : Blk w X 39 cs) (h : BK w X cs vs was c AK AW cK cW)
    (hv : w.ownsRow 0 3 1 (.slice A l.length q) l.length (enc Gr.ic l)) (hn : ∀ b, (Value.slice A l.length q).ownBlock = some b → ¬ InVs vs b) (hl : l.length ≤ 100000) (hm : vs.length < 250) :
    Calls Tryz.prog 11 #[.pointer (some ⟨X, 0, none⟩), .slice A l.length q] w fun e w' => e = .returned (.tuple #[]) ∧ Added w w' X cs vs was c AK AW cK cW A q l := by
  have x0 := (hX.cell 2).trans h.k0
  have x1 := (hX.cell 3).trans h.k1
  have xf := hX.frozen 2
  have x2 := hX.lt
  have HX := Lib.hid hX
  have HH := Lib.hid h
  have HV := Lib.hid hv
  have HN := Lib.hid hn
  have dm : decide ((vs.length : Int) < 250) = true := decide_eq_true (by omega)
  have HLEN := Lib.hid h.len
  have hmw : was.length < 250 := by rw [h.len]; exact hm
  clear hX h hv hn
  obtain ⟨i1, hi1, hz10, hz11, hz12⟩ := info_parts sliceInfo
  go_enter Tryz.func11, Tryz.ntmps11
  go_wp2_with (first
    | (at_builtin
       refine wpList_append_any _ rfl (.tmp 14) (.tmp 16) _ rfl 0 22 i1 _ 1 24 Tryz.underlying33 hi1 hz10 hz11 hz12 rfl (by omega) (.slice AK vs.length cK) vs.length vs (by rfl) (own_below HH.out.kept.row (below_new _ _)) _ 1 1 _ (by rfl) (Reads.new _ _ rfl) (by simp [Value.oneCell']) (fun e => by cases e) (by simp only [maxLen]; omega) (by omega) (Nat.zero_le _) ?_
       intro v1 w1 hown1 hg1 hat1
       obtain ⟨A1, k1, rfl, hk1⟩ := own_form hown1
       have HO1 := Lib.hid hown1
       have HG1 := Lib.hid hg1
       have HA1 := Lib.hid hat1
       have hX1 := (HX.out.alloc _).mod (Mod.of_grown hg1) (fun e => own_blk_ne HH.out.kept.row HX.out (by decide) e.symm)
       have y0 := (hX1.cell 2).trans HH.out.k0
       have y1 := (hX1.cell 3).trans HH.out.k1
       have yf := hX1.frozen 2
       have y2 := hX1.lt
       have HX1 := Lib.hid hX1
       clear hown1 hg1 hat1 hX1))
  have hX2 : Blk (w1.setCell ⟨X, 2, none⟩ (.slice A1 (vs.length + 1) k1)) X 39 (cs.setIfInBounds 2 (.slice A1 (vs.length + 1) k1)) := HX1.out.set_ 2 _
  have hko : ∀ (b2 e2 s2 n2 : Nat) (v2 : Value) (x2 : List Value), w.ownsRow b2 e2 s2 v2 n2 x2 → (∀ b, v2.ownBlock = some b → (Value.slice AK vs.length cK).ownBlock ≠ some b ∧ b ≠ X) → (w1.setCell ⟨X, 2, none⟩ (.slice A1 (vs.length + 1) k1)).ownsRow b2 e2 s2 v2 n2 x2 := fun b2 e2 s2 n2 v2 x2 ho hb =>
    own_mod (own_mod (own_below ho (below_new _ _)) (Mod.of_grown HG1.out) (fun b hb' hS => (hb b hb').1 hS.symm)) (S := fun b => some X = some b) (mod_set1 _ _ _ _) (fun b hb' hS => (hb b hb').2 (by injection hS with hS; exact hS.symm))
  have hm2 : Mod (fun b => b = X ∨ (Value.slice AK vs.length cK).ownBlock = some b) w (w1.setCell ⟨X, 2, none⟩ (.slice A1 (vs.length + 1) k1)) :=
    ((Mod.of_below (S := fun b => b = X ∨ (Value.slice AK vs.length cK).ownBlock = some b) (below_new w _)).trans (Mod.of_grown HG1.out) (fun b _ hS => .inr hS.symm)).trans (mod_set1 _ X _ _) (fun b _ hS => .inl (by injection hS with hS; exact hS.symm))
  have hK2 : kd (w1.setCell ⟨X, 2, none⟩ (.slice A1 (vs.length + 1) k1)) (.slice A1 (vs.length + 1) k1) (vs ++ [.slice A l.length q]) (more c vs.length l) := by
    have h1 := kd_more HH.out.kept HV.out (Below.refl _ _) HN.out HO1.out HG1.out
    refine Kd.mod (S := fun b => some X = some b) h1 (mod_set1 _ _ _ _) (fun b hb hS => ?_) (fun b hb hS => ?_)
    · injection hS with hS
      subst hS
      exact own_blk_ne h1.row HX1.out (by decide) hb
    · injection hS with hS
      subst hS
      obtain ⟨v, hv, hb⟩ := hb
      obtain ⟨i, hi⟩ := List.mem_iff_getElem?.1 hv
      exact own_blk_ne (h1.own i v hi) HX1.out (by decide) hb
  have hW2 : kd (w1.setCell ⟨X, 2, none⟩ (.slice A1 (vs.length + 1) k1)) (.slice AW was.length cW) was c := by
    refine ⟨hko _ _ _ _ _ _ HH.out.was_.row (fun b hb => ⟨fun e => HH.out.rows b e hb, ?_⟩), fun i v hi => hko _ _ _ _ _ _ (HH.out.was_.own i v hi) (fun b hb => ⟨fun e => own_type (HH.out.was_.own i v hi) HH.out.kept.row (by decide) b hb e, ?_⟩), HH.out.was_.apart⟩
    · rintro rfl; exact own_blk_ne HH.out.was_.row HX.out (by decide) hb
    · rintro rfl; exact own_blk_ne (HH.out.was_.own i v hi) HX.out (by decide) hb
  have hV2 := hko _ _ _ _ _ _ HV.out (fun b hb => ⟨fun e => own_type HV.out HH.out.kept.row (by decide) b hb e, by rintro rfl; exact own_blk_ne HV.out HX.out (by decide) hb⟩)
  have hr2 : ∀ b, (Value.slice A1 (vs.length + 1) k1).ownBlock = some b → (Value.slice AW was.length cW).ownBlock ≠ some b := fun b hb e => by
    rcases HA1.out with h | h
    · rw [h] at hb; exact HH.out.rows b hb e
    · rw [h] at hb
      injection hb with hb
      have := (own_block HH.out.was_.row b e).2
      simp at hb
      omega
  generalize hw2 : w1.setCell ⟨X, 2, none⟩ (.slice A1 (vs.length + 1) k1) = w2 at hX2 hm2 hK2 hW2 hV2 ⊢
  clear hko hw2 y0 y1 yf y2 x0 x1 xf x2
  have HX2 := Lib.hid hX2
  have HM2 := Lib.hid hm2
  have HK2 := Lib.hid hK2
  have HW2 := Lib.hid hW2
  have HV2 := Lib.hid (own_reads hV2).2
  have HR2 := Lib.hid hr2
  have HC2 := Lib.hid (show ∀ W, Below w2.heap.size w2 W → W.cell? ⟨X, 3, none⟩ = some (.slice AW was.length cW) ∧ W.frozen? ⟨X, 3, none⟩ = false ∧ X < W.heap.size from fun W hb => by
    have h := hX2.below hb hX2.lt
    refine ⟨(h.cell 3).trans ?_, h.frozen 3, h.lt⟩
    rw [Array.getElem?_setIfInBounds_ne (by decide)]
    exact HH.out.k1)
  clear hX2 hm2 hK2 hW2 hV2 hr2
  obtain ⟨x0, xf, x2⟩ := HC2.out _ (Below.refl _ _)
  have x3 : X < w2.heap.size + 1 := by omega
  go_region_law (first
    | ((try go_simp)
       go_at_call 31
       refine (copy_own A l q _ (reads_drew' HV2.out) hl).mono ?_
       rintro e w3 ⟨v3, rfl, ho3, hb3⟩
       obtain ⟨A3, k3, rfl, hk3⟩ := own_form ho3
       have hD3 : Below w2.heap.size w2 w3 := (Below.refl _ _).drew.trans hb3
       obtain ⟨y0, yf, y2⟩ := HC2.out _ hD3
       have y3 : X < w3.heap.size + 1 := by omega
       have HO3 := Lib.hid ho3
       have HD3 := Lib.hid hD3
       clear ho3 hb3 hD3)
    | (refine step_append_any _ rfl _ _ _ (by rfl) 0 22 i1 _ 1 24 Tryz.underlying33 hi1 hz10 hz11 hz12 rfl (by omega) (.slice AW was.length cW) was.length was (by rfl) (own_below (own_below HW2.out.row HD3.out) (below_new _ _)) _ 1 1 _ (by rfl) (Reads.new _ _ rfl) (by simp [Value.oneCell']) (fun e => by cases e) (by simp only [maxLen]; omega) (by omega) (Nat.zero_le _) ?_
       intro v4 w4 hown4 hg4 hat4
       obtain ⟨A4, k4, rfl, hk4⟩ := own_form hown4
       have HO4 := Lib.hid hown4
       have HG4 := Lib.hid hg4
       have HA4 := Lib.hid hat4
       have hX4 := ((HX2.out.below HD3.out HX2.out.lt).alloc (.cells #[.slice A3 l.length k3] 22)).mod (Mod.of_grown hg4) (fun e => own_blk_ne HW2.out.row HX2.out (by decide) e.symm)
       have q0 := hX4.frozen 3
       have q1 : ∃ u, w4.cell? ⟨X, 3, none⟩ = some u := ⟨_, (hX4.cell 3).trans (by rw [Array.getElem?_setIfInBounds_ne (by decide)]; exact HH.out.k1)⟩
       have q2 := hX4.lt
       obtain ⟨qv, q1⟩ := q1
       have HX4 := Lib.hid hX4
       clear hown4 hg4 hat4 hX4))
  all_goals
    go_wp2_with fail
    go_end0
    obtain ⟨r1, r2, r3⟩ := add_end HH.out.k0 HH.out.k1 HLEN.out HX4.out HM2.out HK2.out HW2.out HX2.out HR2.out HD3.out HO3.out HO4.out HG4.out HA4.out
    refine ⟨rfl, A1, A4, k1, k4, _, r1, r2, r3.mono (fun b _ h => ?_), fun b hb => ?_, fun b hb => ?_⟩
    · rcases h with h | (h | h) | h
      · exact .inl h
      · exact .inl h
      · exact .inr (.inl h)
      · exact .inr (.inr h)
    · rcases HA1.out with h | h
      · exact .inl (h ▸ hb)
      · have e := h.symm.trans hb
        injection e with e
        simp at e
        exact .inr (by omega)
    · rcases HA4.out with h | h
      · exact .inl (h ▸ hb)
      · have e := h.symm.trans hb
        injection e with e
        simp at e
        have := HD3.out.size
        have := HM2.out.size
        exact .inr (by omega)

/-! ### what has grown reads as marks -/
theorem GS.rd_us {w wr : World} {vK o : Value} {vs us : List Value} {n : Nat → Nat} {j : Nat} (h : GS w wr vK vs us (fun i => marks i 0 (n i)) j o) : rd wr o us (fun i => marks i 0 (n i + 72)) := by
  have hlen : us.length = j := by have := h.row.1; simpa using this
  refine ⟨by rw [hlen]; exact own_zero h.row, fun i u hu => ?_⟩
  have h1 := (h.grown i u hu).1
  have e := marks_append i 0 (n i) 72
  rw [Nat.zero_add] at e
  simp only [marks_len] at h1
  rw [e] at h1
  obtain ⟨A, k, rfl, _⟩ := own_form h1
  refine ⟨A, k, by rw [marks_len], ?_⟩
  have := (own_reads h1).2
  rw [Arr, marks_len]
  exact this
theorem GS.rd_vs {w wr : World} {vK o : Value} {vs us : List Value} {c : Nat → List Int} (h : GS w wr vK vs us c vs.length o) : rd wr vK vs c :=
  ⟨h.old, fun i v hi => by
    have hlt : i < vs.length := by
      rcases Nat.lt_or_ge i vs.length with h | h
      · exact h
      · rw [List.getElem?_eq_none h] at hi; cases hi
    exact h.done i v hi hlt⟩

end Go.Proofs.YteminkohgagedaaGreat.BkInts
