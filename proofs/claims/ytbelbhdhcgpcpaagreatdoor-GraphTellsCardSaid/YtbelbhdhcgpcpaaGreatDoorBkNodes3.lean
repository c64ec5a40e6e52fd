/- The book's functions over lists of nodes (3): a copy with lists of its own. -/
import Derived.Test.YtbelbhdhcgpcpaaGreatDoorBkNodes2
namespace Go.Proofs.YtbelbhdhcgpcpaaGreatDoor.BkNodes
open Go.RowKit Go.Proofs.YtbelbhdhcgpcpaaGreatDoor.Base Go.Proofs.YtbelbhdhcgpcpaaGreatDoor.Bk Go.Proofs.YtbelbhdhcgpcpaaGreatDoor.Gr
set_option linter.unusedVariables false
set_option linter.unusedSimpArgs false

/-- A node's two cells, that read so. -/
def Shal (w : World) (p : NC) (x : Nd) : Prop := ∃ A c B d, p = (.slice A x.slots.length c, .slice B x.words.length d) ∧ Ints w A x.slots ∧ Ints w B x.words
theorem Shal.below {w w' : World} {p : NC} {x : Nd} (h : Shal w p x) (hb : Below w.heap.size w w') : Shal w' p x := by
  obtain ⟨A, c, B, d, e, h1, h2⟩ := h
  exact ⟨A, c, B, d, e, h1.below hb, h2.below hb⟩
theorem raws {w : World} {A : Option Addr} {xs : List Nd} (h : Nodes w A xs) : ∃ rs : List NC, Arr w nf 2 A rs ∧ rs.length = xs.length ∧ ∀ (i : Nat) (hi : i < xs.length), ∃ p, rs[i]? = some p ∧ Shal w p xs[i] := by
  have hex : ∀ i : Fin xs.length, ∃ p : NC, Shal w p xs[i] ∧ ∃ ad, A = some ad ∧ w.cell? (ad.add (i.1 * 2)) = some p.1 ∧ w.cell? (ad.add (i.1 * 2 + 1)) = some p.2 := fun i => by
    obtain ⟨ad, e, A1, c1, A2, c2, a0, a1, i1, i2⟩ := h.2 i.1 i.2
    refine ⟨(.slice A1 _ c1, .slice A2 _ c2), ⟨A1, c1, A2, c2, rfl, i1, i2⟩, ad, e, a0, ?_⟩
    rw [← add_of_add]
    exact a1
  let g : Fin xs.length → NC := fun i => Classical.choose (hex i)
  have hg : ∀ i, Shal w (g i) xs[i] ∧ ∃ ad, A = some ad ∧ w.cell? (ad.add (i.1 * 2)) = some (g i).1 ∧ w.cell? (ad.add (i.1 * 2 + 1)) = some (g i).2 := fun i => Classical.choose_spec (hex i)
  refine ⟨List.ofFn g, ⟨?_, fun hn => ?_⟩, List.length_ofFn, fun i hi => ⟨g ⟨i, hi⟩, ?_, (hg ⟨i, hi⟩).1⟩⟩
  · rw [enc_len nf_len]
  · rw [enc_len nf_len, List.length_ofFn] at hn
    have h0 : 0 < xs.length := by omega
    obtain ⟨_, ad, e, _, _⟩ := hg ⟨0, h0⟩
    refine ⟨ad, e, fun j u hu => ?_⟩
    have hj : j < (enc nf (List.ofFn g)).length := by
      rcases Nat.lt_or_ge j (enc nf (List.ofFn g)).length with h | h
      · exact h
      · rw [List.getElem?_eq_none h] at hu; cases hu
    rw [enc_len nf_len, List.length_ofFn] at hj
    have hq : j / 2 < xs.length := by omega
    have hgt := enc_get nf_len (List.ofFn g) (j / 2) (by rw [List.length_ofFn]; exact hq) (j % 2) (by omega)
    rw [show j / 2 * 2 + j % 2 = j by omega, hu, List.getElem_ofFn] at hgt
    obtain ⟨_, ad', e', b0, b1⟩ := hg ⟨j / 2, hq⟩
    rw [e] at e'
    injection e' with e'
    subst e'
    rcases (by omega : j % 2 = 0 ∨ j % 2 = 1) with hm | hm
    · rw [hm] at hgt
      have : u = (g ⟨j / 2, hq⟩).1 := by simpa [nf] using hgt
      rw [this, ← b0]; congr 2; show j = j / 2 * 2; omega
    · rw [hm] at hgt
      have : u = (g ⟨j / 2, hq⟩).2 := by simpa [nf] using hgt
      rw [this, ← b1]; congr 2; show j = j / 2 * 2 + 1; omega
  · rw [List.getElem?_ofFn, dif_pos hi]
theorem nf_shal {w : World} {rs : List NC} {xs : List Nd} (hl : rs.length = xs.length) (h : ∀ (i : Nat) (hi : i < xs.length), ∃ p, rs[i]? = some p ∧ Shal w p xs[i]) : ∀ u ∈ enc nf rs, u.oneCell' = true := by
  intro u hu
  simp only [enc, List.mem_flatMap] at hu
  obtain ⟨p, hp, hu⟩ := hu
  obtain ⟨i, hi⟩ := List.mem_iff_getElem?.1 hp
  have hlt : i < xs.length := by
    rcases Nat.lt_or_ge i rs.length with h | h
    · omega
    · rw [List.getElem?_eq_none h] at hi; cases hi
  obtain ⟨p', e', A, c, B, d, e, _, _⟩ := h i hlt
  rw [hi] at e'
  injection e' with e'
  subst e' e
  simp only [nf, List.mem_cons, List.not_mem_nil, or_false] at hu
  rcases hu with rfl | rfl <;> rfl
theorem set_mid {β : Type} (a b : List β) (x y : β) (k : Nat) (h : a.length = k) : (a ++ y :: b).set k x = a ++ x :: b := by
  subst h
  rw [List.set_append_right _ _ (Nat.le_refl _), Nat.sub_self]
  rfl
set_option maxRecDepth 100000 in
set_option maxHeartbeats 4000000 in
theorem copy_any (A : Option Addr) (xs : List Nd) (c : Nat) (w : World) (hA : Nodes w A xs) (hl : xs.length ≤ 100000) (hx : ∀ x ∈ xs, x.slots.length ≤ 100000 ∧ x.words.length ≤ 100000) :
    Calls Tryz.prog 70 #[.slice A xs.length c] w fun e w' => ∃ B d ps, e = .returned (.slice B xs.length d) ∧ w'.ownsRow w.heap.size 45 2 (.slice B xs.length d) xs.length (enc nf ps) ∧ Deeps w' w.heap.size ps xs ∧ Below w.heap.size w w' := by
  obtain ⟨i0, hi0, hz0, hz1, hz2⟩ := info_parts1 nodeInfo
  obtain ⟨rs, hr, hrl, hrs⟩ := raws hA
  have HRS := Lib.hid hrs
  have HRL := Lib.hid hrl
  have HX := Lib.hid hx
  have hr' : Reads w 2 A xs.length (enc nf rs) := by rw [← hrl]; exact hr
  have ho := nf_shal hrl hrs
  have hA0 : A = none → xs.length = 0 := fun e => by
    have := hr.len nf_len (by omega) e
    omega
  clear hA hrl hrs hx hr
  go_enter Tryz.func70, Tryz.ntmps70
  go_wp2_with (first
    | (at_builtin
       refine wpList_append_any _ rfl (.const (.slice none 0 0)) (.tmp 4) _ rfl w.heap.size 45 i0 _ 2 48 Tryz.underlying23 hi0 hz0 hz1 hz2 rfl (by omega) (.slice none 0 0) 0 [] rfl
         (own_nil _ _ _ _) A xs.length c (enc nf rs) rfl hr' ho hA0 (by simp only [maxLen]; omega) (by omega) (Nat.le_refl _) ?_
       intro v1 w1 hown1 hg1 hat1
       rw [Nat.zero_add] at hown1
       obtain ⟨B, d, rfl, hd⟩ := own_form hown1
       have HO1 := Lib.hid hown1
       have HB1 := Lib.hid (show Below w.heap.size w w1 from (Below.refl _ _).grown hg1 (Nat.le_refl _) (by simp [Value.ownBlock]))
       clear hown1 hg1 hat1))
  clear hr' ho hA0
  go_loopw [3] (fun q wr => ∃ (k : Nat) (ps : List NC), k ≤ xs.length ∧ q = .int .i64 (k : Int) ∧ ps.length = k ∧ Hid (wr.ownsRow w.heap.size 45 2 (.slice B xs.length d) xs.length (enc nf (ps ++ rs.drop k))) ∧ Hid (Deeps wr w.heap.size ps (xs.take k)) ∧ Hid (Below w.heap.size w wr)) (fun q _ => xs.length - (intOf q).toNat)
  case atStart => exact ⟨0, [], Nat.zero_le _, rfl, rfl, Lib.hid (by simpa using HO1.out), Lib.hid (Deeps.nil _ _), HB1⟩
  case round =>
    obtain ⟨k, ps, hk, rfl, hpl, HO, HD, HB⟩ := hrel
    by_cases hlt : k < xs.length
    · obtain ⟨p, hp, hsh⟩ := HRS.out k hlt
      have hsh2 := hsh.below HB.out
      obtain ⟨A1, c1, A2, c2, rfl, i1, i2⟩ := hsh2
      have hxk := HX.out _ (List.getElem_mem hlt)
      have HTK := Lib.hid (List.take_succ_eq_append_getElem hlt)
      generalize xs[k] = x at i1 i2 hxk HTK hp
      have hrk : k < rs.length := by rw [HRL.out]; exact hlt
      have hdrop : rs.drop k = (.slice A1 x.slots.length c1, .slice A2 x.words.length c2) :: rs.drop (k + 1) := by
        rw [List.drop_eq_getElem_cons hrk]
        rw [List.getElem?_eq_getElem hrk] at hp
        injection hp with hp
        rw [hp]
      have hown := HO.out
      rw [hdrop] at hown
      have hen : enc nf (ps ++ (.slice A1 x.slots.length c1, .slice A2 x.words.length c2) :: rs.drop (k + 1)) = enc nf ps ++ .slice A1 x.slots.length c1 :: .slice A2 x.words.length c2 :: enc nf (rs.drop (k + 1)) := by
        rw [enc_append]; rfl
      rw [hen] at hown
      have hel : (enc nf ps).length = k * 2 := by rw [enc_len nf_len, hpl]
      obtain ⟨g, f1, ⟨q2, f2⟩, f3, f4, f5⟩ := own_cell (q := k * 2) hown (by rw [List.getElem?_append_right (by omega), hel, Nat.sub_self]; rfl)
      injection f2 with f2 _ f2c
      subst f2
      subst f2c
      obtain ⟨_, f1', -, -, f6, f7⟩ := own_cell (q := k * 2 + 1) hown (by rw [List.getElem?_append_right (by omega), hel, show k * 2 + 1 - k * 2 = 1 by omega]; rfl)
      rw [f1] at f1'; injection f1' with f1'; subst f1'
      have HOW := Lib.hid hown
      have HF1 := Lib.hid f1
      have HEL := Lib.hid hel
      have C := Lib.hid (show ∀ W, Below wr.heap.size wr W → W.cell? ⟨g, k * 2, none⟩ = some (.slice A1 x.slots.length c1) ∧ W.cell? ⟨g, k * 2 + 1, none⟩ = some (.slice A2 x.words.length c2) ∧ W.frozen? ⟨g, k * 2, none⟩ = false ∧ W.frozen? ⟨g, k * 2 + 1, none⟩ = false ∧ g < W.heap.size from fun W hb =>
        ⟨(hb.cell (p := ⟨g, k * 2, none⟩) f3).trans f4, (hb.cell (p := ⟨g, k * 2 + 1, none⟩) f3).trans f6, (hb.frozen (p := ⟨g, k * 2, none⟩) f3).trans f5, (hb.frozen (p := ⟨g, k * 2 + 1, none⟩) f3).trans f7, Nat.lt_of_lt_of_le f3 hb.size⟩)
      have K1 := Lib.hid (fun (W : World) (hb : Below wr.heap.size wr W) => BkInts.copy_own A1 x.slots c1 W (i1.below hb).1 hxk.1)
      have K2 := Lib.hid (fun (W : World) (hb : Below wr.heap.size wr W) => BkInts.copy_own A2 x.words c2 W (i2.below hb).1 hxk.2)
      clear hown hel hen hdrop f1 i1 i2 hp hsh hrk
      go_wp2_with fail
      go_region_law (first
        | ((try go_simp)
           go_at_call 69
           revert HO5
           intro HO5
           refine (K2.out _ HD5.out).mono ?_
           rintro e w6 ⟨v6, rfl, ho6, hb6⟩
           obtain ⟨B6, d6, rfl, hd6⟩ := own_form ho6
           have HD6 := Lib.hid (HD5.out.trans (hb6.mono HD5.out.size))
           have HO6 := Lib.hid ho6
           have HO56 := Lib.hid (own_below HO5.out hb6)
           obtain ⟨x0, x1, x2, x3, x4⟩ := C.out _ HD6.out
           clear ho6 hb6)
        | ((try go_simp)
           go_at_call 69
           refine (K1.out _ (Below.refl _ _).drew).mono ?_
           rintro e w5 ⟨v5, rfl, ho5, hb5⟩
           obtain ⟨B5, d5, rfl, hd5⟩ := own_form ho5
           have HD5 := Lib.hid ((Below.refl wr.heap.size wr).drew.trans hb5)
           have HO5 := Lib.hid ho5
           obtain ⟨x0, x1, x2, x3, x4⟩ := C.out _ HD5.out
           clear ho5 hb5))
      all_goals
        have ho6 := own_below HOW.out (HD6.out)
        have hge : w.heap.size ≤ g := (own_block HOW.out g HF1.out).1
        have hel := HEL.out
        have hs1 := own_set (q := k * 2) (u := .slice B5 x.slots.length d5) ho6 HF1.out (by rw [List.length_append, hel]; simp)
        rw [set_mid _ _ _ _ _ hel] at hs1
        have hs2 := own_set (q := k * 2 + 1) (u := .slice B6 x.words.length d6) hs1 HF1.out (by rw [List.length_append, hel]; simp)
        have hal : (enc nf ps ++ [Value.slice B5 x.slots.length d5]).length = k * 2 + 1 := by rw [List.length_append, hel]; rfl
        rw [show enc nf ps ++ Value.slice B5 x.slots.length d5 :: Value.slice A2 x.words.length c2 :: enc nf (rs.drop (k + 1)) = (enc nf ps ++ [Value.slice B5 x.slots.length d5]) ++ Value.slice A2 x.words.length c2 :: enc nf (rs.drop (k + 1)) from by simp, set_mid _ _ _ _ _ hal] at hs2
        have hni : NotInt w6 g := NotInt.of_own ho6 (by decide) HF1.out
        have hm := mod_set2 w6 g (k * 2) (.slice B5 x.slots.length d5) (.slice B6 x.words.length d6)
        have hS : ∀ b, some g = some b → b < w.heap.size ∨ NotInt w6 b := fun b e => by injection e with e; subst e; exact .inr hni
        have hsz := HB.out.size
        have hsz5 := HD5.out.size
        have hd7 : Deeps ((w6.setCell ⟨g, k * 2, none⟩ (.slice B5 x.slots.length d5)).setCell ⟨g, k * 2 + 1, none⟩ (.slice B6 x.words.length d6)) w.heap.size (ps ++ [((Value.slice B5 x.slots.length d5, Value.slice B6 x.words.length d6) : NC)]) (xs.take (k + 1)) := by
          rw [HTK.out]
          refine Deeps.mod ((HD.out.below HD6.out).app (Deeps.one ⟨⟨hxk.1, B5, d5, rfl, ?_⟩, ⟨hxk.2, B6, d6, rfl, ?_⟩⟩)) hm hS
          · exact own_lower HO56.out hsz
          · exact own_lower HO6.out (by omega)
        have hb7 : Below w.heap.size w ((w6.setCell ⟨g, k * 2, none⟩ (.slice B5 x.slots.length d5)).setCell ⟨g, k * 2 + 1, none⟩ (.slice B6 x.words.length d6)) :=
          ((HB.out.trans (HD6.out.mono hsz)).setCell hge _).setCell hge _
        have HS2 := Lib.hid hs2
        have HD7 := Lib.hid hd7
        have HB7 := Lib.hid hb7
        clear hs1 hs2 hd7 hb7 ho6 hm hS hni hal
        go_wp2_with fail
        go_roundw
        case rel =>
          refine ⟨k + 1, ps ++ [((Value.slice B5 x.slots.length d5, Value.slice B6 x.words.length d6) : NC)], by omega, by go_num, by simp [hpl], Lib.hid ?_, HD7, HB7⟩
          have h := HS2.out
          rw [List.append_assoc, enc_append]
          simpa [enc, nf] using h
        case measure => simp [intOf]; omega
    · have hke : k = xs.length := by omega
      subst hke
      go_wp2_with fail
      go_ret
      refine ⟨B, d, ps, rfl, ?_, ?_, HB.out⟩
      · have h := HO.out
        rw [List.drop_eq_nil_of_le (by rw [HRL.out]; exact Nat.le_refl _), List.append_nil] at h
        exact h
      · have h := HD.out
        rw [List.take_length] at h
        exact h
end Go.Proofs.YtbelbhdhcgpcpaaGreatDoor.BkNodes
