/- The statement CodeJoins's own function: of every two programs it answers true. -/
import Derived.Test.YtdlapjfcmhkieaaDoorCodeAlive
import Derived.Test.YtdlapjfcmhkieaaDoorBookIns
namespace Go.Proofs.YtdlapjfcmhkieaaDoor.Ver
open Go.RowKit Go.Proofs.YtdlapjfcmhkieaaDoor.Base
set_option linter.unusedVariables false
set_option linter.unusedSimpArgs false

theorem bytesOf_append (l m : List Ins) : bytesOf (l ++ m) = bytesOf l ++ bytesOf m := List.flatMap_append
theorem putRes_no {l : List Ins} (h : progOk l = false) : putRes l = .tuple #[.string ⟨#[]⟩, .bool false] := by rw [putRes, h]; rfl
theorem putRes_yes {l : List Ins} (h : progOk l = true) : putRes l = .tuple #[.string ⟨(bytesOf l).toArray⟩, .bool true] := by rw [putRes, h]; rfl
/-- The bytes of a program that may be are that program. -/
theorem bytesOf_get (l : List Ins) (i : Nat) (hi : i < l.length) (j : Nat) (hj : j < 4) : (bytesOf l)[4 * i + j]? = some (byteOf (l[i].nth j)) := by
  induction l generalizing i with
  | nil => simp at hi
  | cons x l ih =>
    have e : bytesOf (x :: l) = x.bytes ++ bytesOf l := rfl
    rw [e]
    cases i with
    | zero =>
      rw [List.getElem?_append_left (by simp [Ins.bytes]; omega)]
      match j, hj with
      | 0, _ => rfl
      | 1, _ => rfl
      | 2, _ => rfl
      | 3, _ => rfl
    | succ i =>
      rw [List.getElem?_append_right (by simp [Ins.bytes]; omega)]
      have : 4 * (i + 1) + j - x.bytes.length = 4 * i + j := by simp [Ins.bytes]; omega
      rw [this]
      have hi' : i < l.length := by simpa using hi
      exact ih i hi'
theorem insOf_bytes (l : List Ins) (h : ∀ x ∈ l, x.byteful = true) (i : Nat) (hi : i < l.length) : insOf (bytesOf l) i = l[i] := by
  have hb := h _ (List.getElem_mem hi)
  have e : ∀ j, j < 4 → (((bytesOf l).getD (4 * i + j) 0).toNat : Int) = l[i].nth j := by
    intro j hj
    rw [List.getD_eq_getElem?_getD, bytesOf_get l i hi j hj]
    exact byteOf_val (byteful_nth hb j)
  have e0 := e 0 (by omega)
  have e1 := e 1 (by omega)
  have e2 := e 2 (by omega)
  have e3 := e 3 (by omega)
  unfold insOf
  rw [show 4 * i = 4 * i + 0 from rfl, e0, e1, e2, e3]
  rfl
theorem progOf_bytes (l : List Ins) (h : ∀ x ∈ l, x.byteful = true) : progOf (bytesOf l) = l := by
  unfold progOf
  rw [bytesOf_len, Nat.mul_div_cancel_left _ (by omega)]
  apply List.ext_getElem
  · simp
  · intro i h1 h2
    rw [List.getElem_map, List.getElem_range]
    exact insOf_bytes l h i h2

set_option maxHeartbeats 1000000 in
theorem joins_far (A B : Option Addr) (l m : List Ins) (c d : Nat) (w : World) (ht : Tab w) (hl : l.length * 32 ≤ 140737488351232) (hm : m.length * 32 ≤ 140737488351232) (h : 200 < l.length + m.length) :
    Calls Tryd.prog 5 #[.slice A l.length c, .slice B m.length d] w fun e w' => e = .returned (.bool true) ∧ Below w.heap.size w w' := by
  generalize l.length = n at hl h
  generalize m.length = k at hm h
  have hd : decide ((n : Int) + k > 200) = true := decide_eq_true (by omega)
  have HT := Lib.hid ht
  clear ht
  go_enter Tryd.func5, Tryd.ntmps5
  go_wp2_with fail
  refine (alive_any _ HT.out).mono ?_
  rintro e w1 ⟨rfl, hb⟩
  go_wp2_with fail
  go_ret
  exact ⟨rfl, hb⟩

set_option maxHeartbeats 1000000 in
theorem joins_bad (A B : Option Addr) (l m : List Ins) (c d : Nat) (w : World) (ht : Tab w) (hl : Arr w Ins.cells 4 A l) (hm : Arr w Ins.cells 4 B m) (h : l.length + m.length ≤ 200) (hb : progOk l = false ∨ progOk l = true ∧ progOk m = false) :
    Calls Tryd.prog 5 #[.slice A l.length c, .slice B m.length d] w fun e w' => e = .returned (.bool true) ∧ Below w.heap.size w w' := by
  have hd : decide ((l.length : Int) + m.length > 200) = false := decide_eq_false (by omega)
  have hn1 : l.length ≤ 200 := by omega
  have hn2 : m.length ≤ 200 := by omega
  have HT := Lib.hid ht
  have HL := Lib.hid hl
  have HM := Lib.hid hm
  clear ht hl hm
  cases hp : progOk l
  · have HP := Lib.hid (putRes_no hp)
    cases hq : progOk m
    · have HQ := Lib.hid (putRes_no hq)
      clear hb hp hq
      go_enter Tryd.func5, Tryd.ntmps5
      go_wp2_with fail
      refine (alive_any _ HT.out).mono ?_
      rintro e w1 ⟨rfl, hb1⟩
      go_wp2_with fail
      have k1 := put_any A l c w1 (HL.out.below hb1)
      rw [HP.out] at k1
      refine k1.mono ?_
      rintro e w2 ⟨rfl, hb2⟩
      clear k1
      go_wp2_with fail
      have k2 := put_any B m d w2 (HM.out.below (below_then hb1 hb2))
      rw [HQ.out] at k2
      refine k2.mono ?_
      rintro e w3 ⟨rfl, hb3⟩
      clear k2
      go_wp2_with fail
      go_ret
      exact ⟨rfl, below_then (below_then hb1 hb2) hb3⟩
    · have HQ := Lib.hid (putRes_yes hq)
      clear hb hp hq
      go_enter Tryd.func5, Tryd.ntmps5
      go_wp2_with fail
      refine (alive_any _ HT.out).mono ?_
      rintro e w1 ⟨rfl, hb1⟩
      go_wp2_with fail
      have k1 := put_any A l c w1 (HL.out.below hb1)
      rw [HP.out] at k1
      refine k1.mono ?_
      rintro e w2 ⟨rfl, hb2⟩
      clear k1
      go_wp2_with fail
      have k2 := put_any B m d w2 (HM.out.below (below_then hb1 hb2))
      rw [HQ.out] at k2
      refine k2.mono ?_
      rintro e w3 ⟨rfl, hb3⟩
      clear k2
      go_wp2_with fail
      go_ret
      exact ⟨rfl, below_then (below_then hb1 hb2) hb3⟩
  · have hq : progOk m = false := by
      rcases hb with h | h
      · rw [hp] at h; cases h
      · exact h.2
    have HP := Lib.hid (putRes_yes hp)
    have HQ := Lib.hid (putRes_no hq)
    clear hb hp hq
    go_enter Tryd.func5, Tryd.ntmps5
    go_wp2_with fail
    refine (alive_any _ HT.out).mono ?_
    rintro e w1 ⟨rfl, hb1⟩
    go_wp2_with fail
    have k1 := put_any A l c w1 (HL.out.below hb1)
    rw [HP.out] at k1
    refine k1.mono ?_
    rintro e w2 ⟨rfl, hb2⟩
    clear k1
    go_wp2_with fail
    have k2 := put_any B m d w2 (HM.out.below (below_then hb1 hb2))
    rw [HQ.out] at k2
    refine k2.mono ?_
    rintro e w3 ⟨rfl, hb3⟩
    clear k2
    go_wp2_with fail
    go_ret
    exact ⟨rfl, below_then (below_then hb1 hb2) hb3⟩

set_option maxRecDepth 100000 in
set_option maxHeartbeats 2000000 in
theorem joins_good (A B : Option Addr) (l m : List Ins) (c d : Nat) (w : World) (ht : Tab w) (hl : Arr w Ins.cells 4 A l) (hm : Arr w Ins.cells 4 B m) (h : l.length + m.length ≤ 200) (hp : progOk l = true) (hq : progOk m = true) :
    Calls Tryd.prog 5 #[.slice A l.length c, .slice B m.length d] w fun e w' => e = .returned (.bool true) ∧ Below w.heap.size w w' := by
  have hd : decide ((l.length : Int) + m.length > 200) = false := decide_eq_false (by omega)
  have hn1 : l.length ≤ 200 := by omega
  have hn2 : m.length ≤ 200 := by omega
  have hs : (bytesOf l).length + (bytesOf m).length ≤ 1600 := by rw [bytesOf_len, bytesOf_len]; omega
  have HT := Lib.hid ht
  have HL := Lib.hid hl
  have HM := Lib.hid hm
  have HP := Lib.hid (putRes_yes hp)
  have HQ := Lib.hid (putRes_yes hq)
  have HH := Lib.hid h
  have HG : Hid (progOf (bytesOf l ++ bytesOf m) = l ++ m) := by
    rw [← bytesOf_append]
    refine progOf_bytes _ (fun x hx => ?_)
    rcases List.mem_append.1 hx with hx | hx
    · exact (progOk_of hp).2 x hx
    · exact (progOk_of hq).2 x hx
  obtain ⟨i0, hi0, hz0, hz1, hz2⟩ := info_parts insInfo
  clear ht hl hm hp hq h
  go_enter Tryd.func5, Tryd.ntmps5
  go_wp2_with fail
  refine (alive_any _ HT.out).mono ?_
  rintro e w1 ⟨rfl, hb1⟩
  go_wp2_with fail
  have k1 := put_any A l c w1 (HL.out.below hb1)
  rw [HP.out] at k1
  refine k1.mono ?_
  rintro e w2 ⟨rfl, hb2⟩
  clear k1
  have HB2 := Lib.hid (below_then hb1 hb2)
  clear hb1 hb2
  go_wp2_with fail
  have k2 := put_any B m d w2 (HM.out.below HB2.out)
  rw [HQ.out] at k2
  refine k2.mono ?_
  rintro e w3 ⟨rfl, hb3⟩
  clear k2
  have HB3 := Lib.hid (below_then HB2.out hb3)
  clear hb3
  go_wp2_with fail
  obtain ⟨S, hS⟩ : ∃ S : ByteArray, S = (⟨(bytesOf l).toArray⟩ : ByteArray) ++ ⟨(bytesOf m).toArray⟩ := ⟨_, rfl⟩
  rw [← hS]
  have hSl : S.data.toList = bytesOf l ++ bytesOf m := by rw [hS]; simp
  have hSs : S.size = 4 * (l.length + m.length) := by
    have : S.data.toList.length = S.size := by rw [Array.length_toList]; rfl
    rw [← this, hSl, List.length_append, bytesOf_len, bytesOf_len]; omega
  refine (get_yes S w3 (by omega) (by have := HH.out; omega)).mono ?_
  rintro e w4 ⟨v, rfl, hown, hb4⟩
  have e4 : S.size / 4 = l.length + m.length := by omega
  rw [e4, hSl, HG.out] at hown
  obtain ⟨V, cv, rfl, hcv⟩ := own_form hown
  have hAV : Hid (Arr w4 Ins.cells 4 V (l ++ m)) := by
    show Reads _ _ _ _ _
    rw [List.length_append]
    exact Reads.of_own hown
  have HB4 := Lib.hid (below_then HB3.out hb4)
  clear hS hSl hSs e4 hown hb4 hs
  go_wp2_with (first
    | (at_builtin
       refine wpList_append_guarded _ (by rfl) (.const (.slice none 0 0)) (.tmp 60) _ rfl w4.heap.size 28 i0 _ 4 32 Tryd.underlying22 hi0 hz0 hz1 hz2 rfl (by omega) (.slice none 0 0) 0 [] rfl
         (own_nil _ _ _ _) A l.length c (enc Ins.cells l) rfl (HL.out.below HB4.out) (ins_oneCell l) (fun e => HL.out.len Ins.cells_len (by omega) e) (by simp only [maxLen]; omega) (by omega) (Nat.le_refl _) ?_
       intro v5 w5 hown5 hg5 hat5
       have hb5 : Below w4.heap.size w4 w5 := (Below.refl _ _).grown hg5 (Nat.le_refl _) (by simp [Value.ownBlock]))
    | (at_builtin
       refine wpList_append_guarded _ (by rfl) (.tmp 61) (.tmp 62) _ rfl w4.heap.size 28 i0 _ 4 32 Tryd.underlying22 hi0 hz0 hz1 hz2 rfl (by omega) v5 (0 + l.length) ([] ++ enc Ins.cells l) rfl
         hown5 B m.length d (enc Ins.cells m) rfl (HM.out.below (below_then HB4.out hb5)) (ins_oneCell m) (fun e => HM.out.len Ins.cells_len (by omega) e) (by simp only [maxLen]; omega) (by omega) hb5.size ?_
       intro v6 w6 hown6 hg6 hat6
       obtain ⟨C, c6, rfl, hc6⟩ := own_form hown6))
  have hb6 : Below w4.heap.size w4 w6 := hb5.grown hg6 hb5.size (fun k hk => (own_block hown5 k hk).1)
  have hA6 : Arr w6 Ins.cells 4 C (l ++ m) := by
    show Reads _ _ _ _ _
    rw [List.length_append, enc_append]
    simpa using Reads.of_own hown6
  have k7 := same_any V C (l ++ m) (l ++ m) cv c6 w6 (hAV.out.below hb6) hA6 (by simp; omega)
  rw [decide_eq_true rfl] at k7
  simp only [List.length_append] at k7
  have K7 := Lib.hid k7
  clear k7
  refine (K7.out).mono ?_
  rintro e w7 ⟨rfl, hb7⟩
  go_wp2_with fail
  go_ret
  exact ⟨rfl, below_then (below_then HB4.out hb6) hb7⟩

theorem joins_walk (A : Option Addr) (l : List Ins) (c : Nat) (B : Option Addr) (m : List Ins) (d : Nat) (w : World) (ht : Tab w)
    (hl : Arr w Ins.cells 4 A l) (hlc : l.length ≤ c) (hls : l.length * 32 ≤ 140737488351232) (hm : Arr w Ins.cells 4 B m) (hmc : m.length ≤ d) (hms : m.length * 32 ≤ 140737488351232) :
    Calls Tryd.prog 5 #[.slice A l.length c, .slice B m.length d] w fun e w' => e = .returned (.bool true) ∧ Below w.heap.size w w' := by
  rcases Nat.lt_or_ge 200 (l.length + m.length) with h | h
  · exact joins_far A B l m c d w ht hls hms h
  cases hp : progOk l
  · exact joins_bad A B l m c d w ht hl hm h (.inl hp)
  cases hq : progOk m
  · exact joins_bad A B l m c d w ht hl hm h (.inr ⟨hp, hq⟩)
  · exact joins_good A B l m c d w ht hl hm h hp hq

end Go.Proofs.YtdlapjfcmhkieaaDoor.Ver
