/- The book's functions over lists of nodes (4): what a book holds of them; one list more. Printed by gen_bknodes4.py out of book.tpl. -/
import Derived.Test.YteminkohgagedaaGreatQBkNodes2
namespace Go.Proofs.YteminkohgagedaaGreat.BkNodes
open Go.RowKit Go.Proofs.YteminkohgagedaaGreat.Base Go.Proofs.YteminkohgagedaaGreat.Bk Go.Proofs.YteminkohgagedaaGreat.Gr
set_option linter.unusedVariables false
set_option linter.unusedSimpArgs false

/-- A node's two cells, that read so. -/
def Shal (w : World) (p : NC) (x : Nd) : Prop := ∃ A c B d, p = (.slice A x.slots.length c, .slice B x.words.length d) ∧ Ints w A x.slots ∧ Ints w B x.words
theorem Shal.below {w w' : World} {p : NC} {x : Nd} (h : Shal w p x) (hb : Below w.heap.size w w') : Shal w' p x := by
  obtain ⟨A, c, B, d, e, h1, h2⟩ := h
  exact ⟨A, c, B, d, e, h1.below hb, h2.below hb⟩
theorem raws {w : World} {A : Option Addr} {xs : List Nd} (h : Nodes w A xs) : ∃ rs : List NC, Arr w nf 2 A rs ∧ rs.length = xs.length ∧ ∀ (i : Nat) (hi : i < xs.length), ∃ p, rs[i]? = some p ∧ Shal w p xs[i] := by
  have hex : ∀ i : Fin xs.length, ∃ p : NC, Shal w p xs[i] ∧ ∃ ad, A = some ad ∧ w.cell? (ad.add (i.1 * 2)) = some p.1 ∧ w.cell? (ad.add (i.1 * 2 + 1)) = some p.2 := fun i => by
    obtain ⟨ad, e, A1, c1, A2, c2, a0, a1, i1, i2⟩ := h.2 i.1 i.2
    refine ⟨(.slice A1 _ c1, .slice A2 _ c2), ⟨A1, c1, A2, c2, rfl, i1, i2⟩, ad, e, a0, ?_⟩
    rw [← add_of_add]
    exact a1
  let g : Fin xs.length → NC := fun i => Classical.choose (hex i)
  have hg : ∀ i, Shal w (g i) xs[i] ∧ ∃ ad, A = some ad ∧ w.cell? (ad.add (i.1 * 2)) = some (g i).1 ∧ w.cell? (ad.add (i.1 * 2 + 1)) = some (g i).2 := fun i => Classical.choose_spec (hex i)
  refine ⟨List.ofFn g, ⟨?_, fun hn => ?_⟩, List.length_ofFn, fun i hi => ⟨g ⟨i, hi⟩, ?_, (hg ⟨i, hi⟩).1⟩⟩
  · rw [enc_len nf_len]
  · rw [enc_len nf_len, List.length_ofFn] at hn
    have h0 : 0 < xs.length := by omega
    obtain ⟨_, ad, e, _, _⟩ := hg ⟨0, h0⟩
    refine ⟨ad, e, fun j u hu => ?_⟩
    have hj : j < (enc nf (List.ofFn g)).length := by
      rcases Nat.lt_or_ge j (enc nf (List.ofFn g)).length with h | h
      · exact h
      · rw [List.getElem?_eq_none h] at hu; cases hu
    rw [enc_len nf_len, List.length_ofFn] at hj
    have hq : j / 2 < xs.length := by omega
    have hgt := enc_get nf_len (List.ofFn g) (j / 2) (by rw [List.length_ofFn]; exact hq) (j % 2) (by omega)
    rw [show j / 2 * 2 + j % 2 = j by omega, hu, List.getElem_ofFn] at hgt
    obtain ⟨_, ad', e', b0, b1⟩ := hg ⟨j / 2, hq⟩
    rw [e] at e'
    injection e' with e'
    subst e'
    rcases (by omega : j % 2 = 0 ∨ j % 2 = 1) with hm | hm
    · rw [hm] at hgt
      have : u = (g ⟨j / 2, hq⟩).1 := by simpa [nf] using hgt
      rw [this, ← b0]; congr 2; show j = j / 2 * 2; omega
    · rw [hm] at hgt
      have : u = (g ⟨j / 2, hq⟩).2 := by simpa [nf] using hgt
      rw [this, ← b1]; congr 2; show j = j / 2 * 2 + 1; omega
  · rw [List.getElem?_ofFn, dif_pos hi]
theorem nf_shal {w : World} {rs : List NC} {xs : List Nd} (hl : rs.length = xs.length) (h : ∀ (i : Nat) (hi : i < xs.length), ∃ p, rs[i]? = some p ∧ Shal w p xs[i]) : ∀ u ∈ enc nf rs, u.oneCell' = true := by
  intro u hu
  simp only [enc, List.mem_flatMap] at hu
  obtain ⟨p, hp, hu⟩ := hu
  obtain ⟨i, hi⟩ := List.mem_iff_getElem?.1 hp
  have hlt : i < xs.length := by
    rcases Nat.lt_or_ge i rs.length with h | h
    · omega
    · rw [List.getElem?_eq_none h] at hi; cases hi
  obtain ⟨p', e', A, c, B, d, e, _, _⟩ := h i hlt
  rw [hi] at e'
  injection e' with e'
  subst e' e
  simp only [nf, List.mem_cons, List.not_mem_nil, or_false] at hu
  rcases hu with rfl | rfl <;> rfl
theorem set_mid {β : Type} (a b : List β) (x y : β) (k : Nat) (h : a.length = k) : (a ++ y :: b).set k x = a ++ x :: b := by
  subst h
  rw [List.set_append_right _ _ (Nat.le_refl _), Nat.sub_self]
  rfl
set_option maxRecDepth 100000 in
set_option maxHeartbeats 4000000 in
theorem copy_any (A : Option Addr) (xs : List Nd) (c : Nat) (w : World) (hA : Nodes w A xs) (hl : xs.length ≤ 100000) (hx : ∀ x ∈ xs, x.slots.length ≤ 100000 ∧ x.words.length ≤ 100000) :
    Calls Tryz.prog 69 #[.slice A xs.length c] w fun e w' => ∃ B d ps, e = .returned (.slice B xs.length d) ∧ w'.ownsRow w.heap.size 55 2 (.slice B xs.length d) xs.length (enc nf ps) ∧ Deeps w' w.heap.size ps xs ∧ Below w.heap.size w w' := by
  obtain ⟨i0, hi0, hz0, hz1, hz2⟩ := info_parts1 nodeInfo
  obtain ⟨rs, hr, hrl, hrs⟩ := raws hA
  have HRS := Lib.hid hrs
  have HRL := Lib.hid hrl
  have HX := Lib.hid hx
  have hr' : Reads w 2 A xs.length (enc nf rs) := by rw [← hrl]; exact hr
  have ho := nf_shal hrl hrs
  have hA0 : A = none → xs.length = 0 := fun e => by
    have := hr.len nf_len (by omega) e
    omega
  clear hA hrl hrs hx hr
  go_enter Tryz.func69, Tryz.ntmps69
  go_wp2_with (first
    | (at_builtin
       refine wpList_append_any _ rfl (.const (.slice none 0 0)) (.tmp 4) _ rfl w.heap.size 55 i0 _ 2 48 Tryz.underlying23 hi0 hz0 hz1 hz2 rfl (by omega) (.slice none 0 0) 0 [] rfl
         (own_nil _ _ _ _) A xs.length c (enc nf rs) rfl hr' ho hA0 (by simp only [maxLen]; omega) (by omega) (Nat.le_refl _) ?_
       intro v1 w1 hown1 hg1 hat1
       rw [Nat.zero_add] at hown1
       obtain ⟨B, d, rfl, hd⟩ := own_form hown1
       have HO1 := Lib.hid hown1
       have HB1 := Lib.hid (show Below w.heap.size w w1 from (Below.refl _ _).grown hg1 (Nat.le_refl _) (by simp [Value.ownBlock]))
       clear hown1 hg1 hat1))
  clear hr' ho hA0
  go_loopw [3] (fun q wr => ∃ (k : Nat) (ps : List NC), k ≤ xs.length ∧ q = .int .i64 (k : Int) ∧ ps.length = k ∧ Hid (wr.ownsRow w.heap.size 55 2 (.slice B xs.length d) xs.length (enc nf (ps ++ rs.drop k))) ∧ Hid (Deeps wr w.heap.size ps (xs.take k)) ∧ Hid (Below w.heap.size w wr)) (fun q _ => xs.length - (intOf q).toNat)
  case atStart => exact ⟨0, [], Nat.zero_le _, rfl, rfl, Lib.hid (by simpa using HO1.out), Lib.hid (Deeps.nil _ _), HB1⟩
  case round =>
    obtain ⟨k, ps, hk, rfl, hpl, HO, HD, HB⟩ := hrel
    by_cases hlt : k < xs.length
    · obtain ⟨p, hp, hsh⟩ := HRS.out k hlt
      have hsh2 := hsh.below HB.out
      obtain ⟨A1, c1, A2, c2, rfl, i1, i2⟩ := hsh2
      have hxk := HX.out _ (List.getElem_mem hlt)
      have HTK := Lib.hid (List.take_succ_eq_append_getElem hlt)
      generalize xs[k] = x at i1 i2 hxk HTK hp
      have hrk : k < rs.length := by rw [HRL.out]; exact hlt
      have hdrop : rs.drop k = (.slice A1 x.slots.length c1, .slice A2 x.words.length c2) :: rs.drop (k + 1) := by
        rw [List.drop_eq_getElem_cons hrk]
        rw [List.getElem?_eq_getElem hrk] at hp
        injection hp with hp
        rw [hp]
      have hown := HO.out
      rw [hdrop] at hown
      have hen : enc nf (ps ++ (.slice A1 x.slots.length c1, .slice A2 x.words.length c2) :: rs.drop (k + 1)) = enc nf ps ++ .slice A1 x.slots.length c1 :: .slice A2 x.words.length c2 :: enc nf (rs.drop (k + 1)) := by
        rw [enc_append]; rfl
      rw [hen] at hown
      have hel : (enc nf ps).length = k * 2 := by rw [enc_len nf_len, hpl]
      obtain ⟨g, f1, ⟨q2, f2⟩, f3, f4, f5⟩ := own_cell (q := k * 2) hown (by rw [List.getElem?_append_right (by omega), hel, Nat.sub_self]; rfl)
      injection f2 with f2 _ f2c
      subst f2
      subst f2c
      obtain ⟨_, f1', -, -, f6, f7⟩ := own_cell (q := k * 2 + 1) hown (by rw [List.getElem?_append_right (by omega), hel, show k * 2 + 1 - k * 2 = 1 by omega]; rfl)
      rw [f1] at f1'; injection f1' with f1'; subst f1'
      have HOW := Lib.hid hown
      have HF1 := Lib.hid f1
      have HEL := Lib.hid hel
      have C := Lib.hid (show ∀ W, Below wr.heap.size wr W → W.cell? ⟨g, k * 2, none⟩ = some (.slice A1 x.slots.length c1) ∧ W.cell? ⟨g, k * 2 + 1, none⟩ = some (.slice A2 x.words.length c2) ∧ W.frozen? ⟨g, k * 2, none⟩ = false ∧ W.frozen? ⟨g, k * 2 + 1, none⟩ = false ∧ g < W.heap.size from fun W hb =>
        ⟨(hb.cell (p := ⟨g, k * 2, none⟩) f3).trans f4, (hb.cell (p := ⟨g, k * 2 + 1, none⟩) f3).trans f6, (hb.frozen (p := ⟨g, k * 2, none⟩) f3).trans f5, (hb.frozen (p := ⟨g, k * 2 + 1, none⟩) f3).trans f7, Nat.lt_of_lt_of_le f3 hb.size⟩)
      have K1 := Lib.hid (fun (W : World) (hb : Below wr.heap.size wr W) => BkInts.copy_own A1 x.slots c1 W (i1.below hb).1 hxk.1)
      have K2 := Lib.hid (fun (W : World) (hb : Below wr.heap.size wr W) => BkInts.copy_own A2 x.words c2 W (i2.below hb).1 hxk.2)
      clear hown hel hen hdrop f1 i1 i2 hp hsh hrk
      go_wp2_with fail
      go_region_law (first
        | ((try go_simp)
           go_at_call 31
           revert HO5
           intro HO5
           refine (K2.out _ HD5.out).mono ?_
           rintro e w6 ⟨v6, rfl, ho6, hb6⟩
           obtain ⟨B6, d6, rfl, hd6⟩ := own_form ho6
           have HD6 := Lib.hid (HD5.out.trans (hb6.mono HD5.out.size))
           have HO6 := Lib.hid ho6
           have HO56 := Lib.hid (own_below HO5.out hb6)
           obtain ⟨x0, x1, x2, x3, x4⟩ := C.out _ HD6.out
           clear ho6 hb6)
        | ((try go_simp)
           go_at_call 31
           refine (K1.out _ (Below.refl _ _).drew).mono ?_
           rintro e w5 ⟨v5, rfl, ho5, hb5⟩
           obtain ⟨B5, d5, rfl, hd5⟩ := own_form ho5
           have HD5 := Lib.hid ((Below.refl wr.heap.size wr).drew.trans hb5)
           have HO5 := Lib.hid ho5
           obtain ⟨x0, x1, x2, x3, x4⟩ := C.out _ HD5.out
           clear ho5 hb5))
      all_goals
        have ho6 := own_below HOW.out (HD6.out)
        have hge : w.heap.size ≤ g := (own_block HOW.out g HF1.out).1
        have hel := HEL.out
        have hs1 := own_set (q := k * 2) (u := .slice B5 x.slots.length d5) ho6 HF1.out (by rw [List.length_append, hel]; simp)
        rw [set_mid _ _ _ _ _ hel] at hs1
        have hs2 := own_set (q := k * 2 + 1) (u := .slice B6 x.words.length d6) hs1 HF1.out (by rw [List.length_append, hel]; simp)
        have hal : (enc nf ps ++ [Value.slice B5 x.slots.length d5]).length = k * 2 + 1 := by rw [List.length_append, hel]; rfl
        rw [show enc nf ps ++ Value.slice B5 x.slots.length d5 :: Value.slice A2 x.words.length c2 :: enc nf (rs.drop (k + 1)) = (enc nf ps ++ [Value.slice B5 x.slots.length d5]) ++ Value.slice A2 x.words.length c2 :: enc nf (rs.drop (k + 1)) from by simp, set_mid _ _ _ _ _ hal] at hs2
        have hni : NotInt w6 g := NotInt.of_own ho6 (by decide) HF1.out
        have hm := mod_set2 w6 g (k * 2) (.slice B5 x.slots.length d5) (.slice B6 x.words.length d6)
        have hS : ∀ b, some g = some b → b < w.heap.size ∨ NotInt w6 b := fun b e => by injection e with e; subst e; exact .inr hni
        have hsz := HB.out.size
        have hsz5 := HD5.out.size
        have hd7 : Deeps ((w6.setCell ⟨g, k * 2, none⟩ (.slice B5 x.slots.length d5)).setCell ⟨g, k * 2 + 1, none⟩ (.slice B6 x.words.length d6)) w.heap.size (ps ++ [((Value.slice B5 x.slots.length d5, Value.slice B6 x.words.length d6) : NC)]) (xs.take (k + 1)) := by
          rw [HTK.out]
          refine Deeps.mod ((HD.out.below HD6.out).app (Deeps.one ⟨⟨hxk.1, B5, d5, rfl, ?_⟩, ⟨hxk.2, B6, d6, rfl, ?_⟩⟩)) hm hS
          · exact own_lower HO56.out hsz
          · exact own_lower HO6.out (by omega)
        have hb7 : Below w.heap.size w ((w6.setCell ⟨g, k * 2, none⟩ (.slice B5 x.slots.length d5)).setCell ⟨g, k * 2 + 1, none⟩ (.slice B6 x.words.length d6)) :=
          ((HB.out.trans (HD6.out.mono hsz)).setCell hge _).setCell hge _
        have HS2 := Lib.hid hs2
        have HD7 := Lib.hid hd7
        have HB7 := Lib.hid hb7
        clear hs1 hs2 hd7 hb7 ho6 hm hS hni hal
        go_wp2_with fail
        go_roundw
        case rel =>
          refine ⟨k + 1, ps ++ [((Value.slice B5 x.slots.length d5, Value.slice B6 x.words.length d6) : NC)], by omega, by go_num, by simp [hpl], Lib.hid ?_, HD7, HB7⟩
          have h := HS2.out
          rw [List.append_assoc, enc_append]
          simpa [enc, nf] using h
        case measure => simp [intOf]; omega
    · have hke : k = xs.length := by omega
      subst hke
      go_wp2_with fail
      go_ret
      refine ⟨B, d, ps, rfl, ?_, ?_, HB.out⟩
      · have h := HO.out
        rw [List.drop_eq_nil_of_le (by rw [HRL.out]; exact Nat.le_refl _), List.append_nil] at h
        exact h
      · have h := HD.out
        rw [List.take_length] at h
        exact h
end Go.Proofs.YteminkohgagedaaGreat.BkNodes
namespace Go.Proofs.YteminkohgagedaaGreat.BkNodes
open Go.RowKit Go.Proofs.YteminkohgagedaaGreat.Base Go.Proofs.YteminkohgagedaaGreat.Bk Go.Proofs.YteminkohgagedaaGreat.Gr
set_option linter.unusedVariables false
set_option linter.unusedSimpArgs false

/-! ### what a book holds of this kind; one list more -/
structure BK (w : World) (X : Nat) (cs : Array Value) (vs was : List Value) (c c2 : Nat → List NC) (AK AW : Option Addr) (cK cW : Nat) : Prop where
  k0 : cs[10]? = some (.slice AK vs.length cK)
  k1 : cs[11]? = some (.slice AW was.length cW)
  kept : kd w (.slice AK vs.length cK) vs c
  was_ : kd w (.slice AW was.length cW) was c2
  len : was.length = vs.length
  rows : ∀ b, (Value.slice AK vs.length cK).ownBlock = some b → (Value.slice AW was.length cW).ownBlock ≠ some b
theorem BK.below {w w' : World} {X : Nat} {cs : Array Value} {vs was : List Value} {c c2 : Nat → List NC} {AK AW : Option Addr} {cK cW : Nat} (h : BK w X cs vs was c c2 AK AW cK cW) (hb : Below w.heap.size w w') : BK w' X cs vs was c c2 AK AW cK cW :=
  ⟨h.k0, h.k1, h.kept.below hb, h.was_.below hb, h.len, h.rows⟩
/-- The lists with one more. -/
def more (c : Nat → List NC) (m : Nat) (l : List NC) (i : Nat) : List NC := if i = m then l else c i
theorem kd_more {w w1 w' : World} {ob : Obj} {AK : Option Addr} {cK : Nat} {vs : List Value} {c : Nat → List NC} {v v' : Value} {l : List NC} (h : kd w (.slice AK vs.length cK) vs c) (hv : w1.ownsRow 0 55 2 v l.length (enc nf l)) (hb : Below w.heap.size w w1)
    (hn : ∀ b, v.ownBlock = some b → ¬ InVs vs b) (ho : w'.ownsRow 0 23 1 v' (vs.length + 1) (vs ++ [v])) (hg : (w1.alloc ob).grownBy w' (Value.slice AK vs.length cK).ownBlock) : kd w' v' (vs ++ [v]) (more c vs.length l) := by
  have hm : Mod (fun b => some b = (Value.slice AK vs.length cK).ownBlock) w1 w' := by
    have h1 : Mod (fun b => some b = (Value.slice AK vs.length cK).ownBlock) w1 (w1.alloc ob) := Mod.of_below ((Below.refl _ _).alloc (Nat.le_refl _) _)
    exact h1.trans (Mod.of_grown hg) (fun _ _ h => h)
  have h1 := Kd.below h hb
  have hget : ∀ i u, (vs ++ [v])[i]? = some u → (i < vs.length ∧ vs[i]? = some u) ∨ (i = vs.length ∧ u = v) := by
    intro i u hu
    by_cases hi : i < vs.length
    · rw [List.getElem?_append_left hi] at hu; exact .inl ⟨hi, hu⟩
    · rw [List.getElem?_append_right (by omega)] at hu
      have : i - vs.length = 0 := by
        rcases Nat.eq_zero_or_pos (i - vs.length) with h | h
        · exact h
        · rw [List.getElem?_eq_none (by simp; omega)] at hu; cases hu
      rw [this] at hu
      injection hu with hu
      exact .inr ⟨by omega, hu.symm⟩
  refine ⟨by rw [List.length_append]; exact ho, fun i u hu => ?_, fun i j u u' hij hu hu' b hb1 hb2 => ?_⟩
  · rcases hget i u hu with ⟨hi, hu⟩ | ⟨rfl, rfl⟩
    · have e : more c vs.length l i = c i := if_neg (by omega)
      rw [e]
      exact own_mod (h1.own i u hu) hm (fun b hb hS => own_type (h1.own i u hu) h1.row (by decide) b hb hS.symm)
    · have e : more c vs.length l vs.length = l := if_pos rfl
      rw [e]
      exact own_mod hv hm (fun b hb hS => own_type hv h1.row (by decide) b hb hS.symm)
  · rcases hget i u hu with ⟨hi, hu1⟩ | ⟨rfl, rfl⟩
    · rcases hget j u' hu' with ⟨hj, hu2⟩ | ⟨rfl, rfl⟩
      · exact h.apart i j u u' hij hu1 hu2 b hb1 hb2
      · exact hn b hb2 (InVs.of_get hu1 hb1)
    · rcases hget j u' hu' with ⟨hj, hu'⟩ | ⟨rfl, rfl⟩
      · omega
      · omega

/-- What such a call leaves. -/
def Added (w w' : World) (X : Nat) (cs : Array Value) (vs was : List Value) (c c2 : Nat → List NC) (AK AW : Option Addr) (cK cW : Nat) (A : Option Addr) (q : Nat) (l : List NC) (xs : List Nd) : Prop :=
  ∃ (AK' AW' : Option Addr) (cK' cW' : Nat) (v2 : Value) (l2 : List NC),
      Blk w' X 39 ((cs.setIfInBounds 10 (.slice AK' (vs.length + 1) cK')).setIfInBounds 11 (.slice AW' (was.length + 1) cW')) ∧
      BK w' X ((cs.setIfInBounds 10 (.slice AK' (vs.length + 1) cK')).setIfInBounds 11 (.slice AW' (was.length + 1) cW')) (vs ++ [.slice A l.length q]) (was ++ [v2]) (more c vs.length l) (more c2 was.length l2) AK' AW' cK' cW' ∧ Deeps w' w.heap.size l2 xs ∧
      Mod (fun b => b = X ∨ (Value.slice AK vs.length cK).ownBlock = some b ∨ (Value.slice AW was.length cW).ownBlock = some b) w w' ∧
      (∀ b, (Value.slice AK' (vs.length + 1) cK').ownBlock = some b → (Value.slice AK vs.length cK).ownBlock = some b ∨ w.heap.size ≤ b) ∧
      (∀ b, (Value.slice AW' (was.length + 1) cW').ownBlock = some b → (Value.slice AW was.length cW).ownBlock = some b ∨ w.heap.size ≤ b)
/-- All that the last append and the last store do. -/
theorem add_end {X : Nat} {cs : Array Value} {vs was : List Value} {c c2 : Nat → List NC} {AW A1 A3 A4 A : Option Addr} {cW k1 k3 k4 q : Nat} {l l2 : List NC} {w w2 w3 w4 : World} {S0 : Nat → Prop} {x y : Value}
    (h0 : cs[10]? = some x) (h1 : cs[11]? = some y) (hlen : was.length = vs.length) (HX4 : Blk w4 X 39 (cs.setIfInBounds 10 (.slice A1 (vs.length + 1) k1))) (HM2 : Mod S0 w w2)
    (HK2 : kd w2 (.slice A1 (vs.length + 1) k1) (vs ++ [.slice A l.length q]) (more c vs.length l)) (HW2 : kd w2 (.slice AW was.length cW) was c2) (HX2 : Blk w2 X 39 (cs.setIfInBounds 10 (.slice A1 (vs.length + 1) k1)))
    (HR2 : ∀ b, (Value.slice A1 (vs.length + 1) k1).ownBlock = some b → (Value.slice AW was.length cW).ownBlock ≠ some b) (HD3 : Below w2.heap.size w2 w3) (hl2 : l2.length = l.length) (HO3 : w3.ownsRow w2.heap.size 55 2 (.slice A3 l.length k3) l.length (enc nf l2))
    (HO4 : w4.ownsRow 0 23 1 (.slice A4 (was.length + 1) k4) (was.length + 1) (was ++ [.slice A3 l.length k3])) (HG4 : (w3.alloc (.cells #[.slice A3 l.length k3] 23)).grownBy w4 (Value.slice AW was.length cW).ownBlock)
    (HA4 : (Value.slice A4 (was.length + 1) k4).ownBlock = (Value.slice AW was.length cW).ownBlock ∨ (Value.slice A4 (was.length + 1) k4).ownBlock = some (w3.alloc (.cells #[.slice A3 l.length k3] 23)).heap.size) :
    Blk (w4.setCell ⟨X, 11, none⟩ (.slice A4 (was.length + 1) k4)) X 39 ((cs.setIfInBounds 10 (.slice A1 (vs.length + 1) k1)).setIfInBounds 11 (.slice A4 (was.length + 1) k4)) ∧
    BK (w4.setCell ⟨X, 11, none⟩ (.slice A4 (was.length + 1) k4)) X ((cs.setIfInBounds 10 (.slice A1 (vs.length + 1) k1)).setIfInBounds 11 (.slice A4 (was.length + 1) k4)) (vs ++ [.slice A l.length q]) (was ++ [.slice A3 l.length k3]) (more c vs.length l) (more c2 was.length l2) A1 A4 k1 k4 ∧
    Mod (fun b => b = X ∨ S0 b ∨ (Value.slice AW was.length cW).ownBlock = some b) w (w4.setCell ⟨X, 11, none⟩ (.slice A4 (was.length + 1) k4)) := by
  have hm4 : Mod (fun b => (Value.slice AW was.length cW).ownBlock = some b) w2 w4 := (mod_below (Mod.of_below HD3) (below_new w3 _)).trans (Mod.of_grown HG4) (fun b _ hS => hS.symm)
  have hset := mod_set1 w4 X 11 (.slice A4 (was.length + 1) k4)
  obtain ⟨e0, e1⟩ := BkInts.book_cells (a := .slice A1 (vs.length + 1) k1) (b := .slice A4 (was.length + 1) k4) h0 h1 (by decide)
  have hz := HD3.size
  have hk4 : kd w4 (.slice A1 (vs.length + 1) k1) (vs ++ [.slice A l.length q]) (more c vs.length l) :=
    Kd.mod HK2 hm4 (fun b hb hS => HR2 b hb hS) (fun b hb hS => by
      obtain ⟨v, hv, hb⟩ := hb
      obtain ⟨i, hi⟩ := List.mem_iff_getElem?.1 hv
      exact own_type (HK2.own i v hi) HW2.row (by decide) b hb hS)
  have hw4 : kd w4 (.slice A4 (was.length + 1) k4) (was ++ [.slice A3 l.length k3]) (more c2 was.length l2) :=
    kd_more HW2 (by rw [hl2]; exact own_zero HO3) HD3 (fun b hb hS => by
      have := (own_block HO3 b hb).1
      have := HW2.block b hS
      omega) HO4 HG4
  have hx : ∀ {vK : Value} {vs' : List Value} {c' : Nat → List NC}, kd w4 vK vs' c' → kd (w4.setCell ⟨X, 11, none⟩ (.slice A4 (was.length + 1) k4)) vK vs' c' := fun {vK vs' c'} h =>
    Kd.mod h hset (fun b hb hS => by
      injection hS with hS
      subst hS
      exact own_blk_ne h.row HX4 (by decide) hb) (fun b hb hS => by
      injection hS with hS
      subst hS
      obtain ⟨v, hv, hb⟩ := hb
      obtain ⟨i, hi⟩ := List.mem_iff_getElem?.1 hv
      exact own_blk_ne (h.own i v hi) HX4 (by decide) hb)
  refine ⟨HX4.set_ 11 _, ⟨by rw [List.length_append]; exact e0, by rw [List.length_append]; exact e1, ?_, ?_, by simp [hlen], ?_⟩, ?_⟩
  · rw [List.length_append]; exact hx hk4
  · rw [List.length_append]; exact hx hw4
  · intro b hb e
    rw [List.length_append] at hb e
    rcases HA4 with h | h
    · exact HR2 b hb (h ▸ e)
    · have h1 := (own_block HK2.row b hb).2
      have : some b = some (w3.alloc (.cells #[.slice A3 l.length k3] 23)).heap.size := e.symm.trans h
      injection this with this
      simp at this
      omega
  · refine ((HM2.mono (fun b _ h => .inr (.inl h))).trans hm4 (fun b _ hS => .inr (.inr hS))).trans hset (fun b _ hS => .inl ?_)
    injection hS with hS
    exact hS.symm
theorem reads_drew' {w : World} {s n : Nat} {A : Option Addr} {xs : List Value} (h : Reads w s A n xs) : Reads w.drew s A n xs := h
set_option maxRecDepth 100000 in
set_option maxHeartbeats 4000000 in
theorem add_any (X : Nat) (cs : Array Value) (vs was : List Value) (c c2 : Nat → List NC) (AK AW : Option Addr) (cK cW : Nat) (A : Option Addr) (q : Nat) (l : List NC) (w : World) (hX : Blk w X 39 cs) (h : BK w X cs vs was c c2 AK AW cK cW)
    (xs : List Nd) (hdp : Deeps w 0 l xs) (hxs : ∀ x ∈ xs, x.slots.length ≤ 100000 ∧ x.words.length ≤ 100000) (hv : w.ownsRow 0 55 2 (.slice A l.length q) l.length (enc nf l)) (hn : ∀ b, (Value.slice A l.length q).ownBlock = some b → ¬ InVs vs b) (hl : l.length ≤ 100000) (hm : vs.length < 250) :
    Calls Tryz.prog 30 #[.pointer (some ⟨X, 0, none⟩), .slice A l.length q] w fun e w' => e = .returned (.tuple #[]) ∧ Added w w' X cs vs was c c2 AK AW cK cW A q l xs := by
  have x0 := (hX.cell 10).trans h.k0
  have x1 := (hX.cell 11).trans h.k1
  have xf := hX.frozen 10
  have x2 := hX.lt
  have HX := Lib.hid hX
  have HH := Lib.hid h
  have HV := Lib.hid hv
  have HDP := Lib.hid hdp
  have HXS := Lib.hid hxs
  have HLL := Lib.hid hdp.1
  have HN := Lib.hid hn
  have dm : decide ((vs.length : Int) < 250) = true := decide_eq_true (by omega)
  have HLEN := Lib.hid h.len
  have hmw : was.length < 250 := by rw [h.len]; exact hm
  clear hX h hv hn hdp hxs
  obtain ⟨i1, hi1, hz10, hz11, hz12⟩ := info_parts sliceInfo
  go_enter Tryz.func30, Tryz.ntmps30
  go_wp2_with (first
    | (at_builtin
       refine wpList_append_any _ rfl (.tmp 14) (.tmp 16) _ rfl 0 23 i1 _ 1 24 Tryz.underlying37 hi1 hz10 hz11 hz12 rfl (by omega) (.slice AK vs.length cK) vs.length vs (by rfl) (own_below HH.out.kept.row (below_new _ _)) _ 1 1 _ (by rfl) (Reads.new _ _ rfl) (by simp [Value.oneCell']) (fun e => by cases e) (by simp only [maxLen]; omega) (by omega) (Nat.zero_le _) ?_
       intro v1 w1 hown1 hg1 hat1
       obtain ⟨A1, k1, rfl, hk1⟩ := own_form hown1
       have HO1 := Lib.hid hown1
       have HG1 := Lib.hid hg1
       have HA1 := Lib.hid hat1
       have hX1 := (HX.out.alloc _).mod (Mod.of_grown hg1) (fun e => own_blk_ne HH.out.kept.row HX.out (by decide) e.symm)
       have y0 := (hX1.cell 10).trans HH.out.k0
       have y1 := (hX1.cell 11).trans HH.out.k1
       have yf := hX1.frozen 10
       have y2 := hX1.lt
       have HX1 := Lib.hid hX1
       clear hown1 hg1 hat1 hX1))
  have hX2 : Blk (w1.setCell ⟨X, 10, none⟩ (.slice A1 (vs.length + 1) k1)) X 39 (cs.setIfInBounds 10 (.slice A1 (vs.length + 1) k1)) := HX1.out.set_ 10 _
  have hko : ∀ (b2 e2 s2 n2 : Nat) (v2 : Value) (x2 : List Value), w.ownsRow b2 e2 s2 v2 n2 x2 → (∀ b, v2.ownBlock = some b → (Value.slice AK vs.length cK).ownBlock ≠ some b ∧ b ≠ X) → (w1.setCell ⟨X, 10, none⟩ (.slice A1 (vs.length + 1) k1)).ownsRow b2 e2 s2 v2 n2 x2 := fun b2 e2 s2 n2 v2 x2 ho hb =>
    own_mod (own_mod (own_below ho (below_new _ _)) (Mod.of_grown HG1.out) (fun b hb' hS => (hb b hb').1 hS.symm)) (S := fun b => some X = some b) (mod_set1 _ _ _ _) (fun b hb' hS => (hb b hb').2 (by injection hS with hS; exact hS.symm))
  have hm2 : Mod (fun b => b = X ∨ (Value.slice AK vs.length cK).ownBlock = some b) w (w1.setCell ⟨X, 10, none⟩ (.slice A1 (vs.length + 1) k1)) :=
    ((Mod.of_below (S := fun b => b = X ∨ (Value.slice AK vs.length cK).ownBlock = some b) (below_new w _)).trans (Mod.of_grown HG1.out) (fun b _ hS => .inr hS.symm)).trans (mod_set1 _ X _ _) (fun b _ hS => .inl (by injection hS with hS; exact hS.symm))
  have hK2 : kd (w1.setCell ⟨X, 10, none⟩ (.slice A1 (vs.length + 1) k1)) (.slice A1 (vs.length + 1) k1) (vs ++ [.slice A l.length q]) (more c vs.length l) := by
    have h1 := kd_more HH.out.kept HV.out (Below.refl _ _) HN.out HO1.out HG1.out
    refine Kd.mod (S := fun b => some X = some b) h1 (mod_set1 _ _ _ _) (fun b hb hS => ?_) (fun b hb hS => ?_)
    · injection hS with hS
      subst hS
      exact own_blk_ne h1.row HX1.out (by decide) hb
    · injection hS with hS
      subst hS
      obtain ⟨v, hv, hb⟩ := hb
      obtain ⟨i, hi⟩ := List.mem_iff_getElem?.1 hv
      exact own_blk_ne (h1.own i v hi) HX1.out (by decide) hb
  have hW2 : kd (w1.setCell ⟨X, 10, none⟩ (.slice A1 (vs.length + 1) k1)) (.slice AW was.length cW) was c2 := by
    refine ⟨hko _ _ _ _ _ _ HH.out.was_.row (fun b hb => ⟨fun e => HH.out.rows b e hb, ?_⟩), fun i v hi => hko _ _ _ _ _ _ (HH.out.was_.own i v hi) (fun b hb => ⟨fun e => own_type (HH.out.was_.own i v hi) HH.out.kept.row (by decide) b hb e, ?_⟩), HH.out.was_.apart⟩
    · rintro rfl; exact own_blk_ne HH.out.was_.row HX.out (by decide) hb
    · rintro rfl; exact own_blk_ne (HH.out.was_.own i v hi) HX.out (by decide) hb
  have hV2 := hko _ _ _ _ _ _ HV.out (fun b hb => ⟨fun e => own_type HV.out HH.out.kept.row (by decide) b hb e, by rintro rfl; exact own_blk_ne HV.out HX.out (by decide) hb⟩)
  have hr2 : ∀ b, (Value.slice A1 (vs.length + 1) k1).ownBlock = some b → (Value.slice AW was.length cW).ownBlock ≠ some b := fun b hb e => by
    rcases HA1.out with h | h
    · rw [h] at hb; exact HH.out.rows b hb e
    · rw [h] at hb
      injection hb with hb
      have := (own_block HH.out.was_.row b e).2
      simp at hb
      omega
  generalize hw2 : w1.setCell ⟨X, 10, none⟩ (.slice A1 (vs.length + 1) k1) = w2 at hX2 hm2 hK2 hW2 hV2 ⊢
  have HX2 := Lib.hid hX2
  have HM2 := Lib.hid hm2
  have HK2 := Lib.hid hK2
  have HW2 := Lib.hid hW2
  have hS1 : ∀ b, some b = (Value.slice AK vs.length cK).ownBlock → b < 0 ∨ NotInt (w.alloc (.cells #[.slice A l.length q] 23)) b := fun b hb => .inr (NotInt.of_own (own_below HH.out.kept.row (below_new _ _)) (by decide) hb.symm)
  have hS2 : ∀ b, some X = some b → b < 0 ∨ NotInt w1 b := fun b hb => by
    injection hb with hb
    subst hb
    exact .inr (NotInt.of_blk HX1.out (by decide))
  have hdp2 : Deeps w2 0 l xs := by
    rw [← hw2]
    exact ((HDP.out.below (below_new _ _)).mod (Mod.of_grown HG1.out) hS1).mod (mod_set1 _ _ _ _) hS2
  have HN2 := Lib.hid (nodes_of (A := A) (own_reads hV2).2 hdp2 (by rw [← HLL.out]; exact hl))
  have HR2 := Lib.hid hr2
  have HC2 := Lib.hid (show ∀ W, Below w2.heap.size w2 W → W.cell? ⟨X, 11, none⟩ = some (.slice AW was.length cW) ∧ W.frozen? ⟨X, 11, none⟩ = false ∧ X < W.heap.size from fun W hb => by
    have h := hX2.below hb hX2.lt
    refine ⟨(h.cell 11).trans ?_, h.frozen 11, h.lt⟩
    rw [Array.getElem?_setIfInBounds_ne (by decide)]
    exact HH.out.k1)
  clear hX2 hm2 hK2 hW2 hV2 hr2 hko hw2 hS1 hS2 hdp2 y0 y1 yf y2 x0 x1 xf x2
  obtain ⟨x0, xf, x2⟩ := HC2.out _ (Below.refl _ _)
  have x3 : X < w2.heap.size + 1 := by omega
  go_region_law (first
    | ((try go_simp)
       go_at_call 69
       have kc := copy_any A xs q w2.drew (HN2.out.below (Below.refl _ _).drew) (by rw [← HLL.out]; exact hl) HXS.out
       rw [← HLL.out] at kc
       refine kc.mono ?_
       rintro e w3 ⟨A3, k3, l2, rfl, ho3, hd3, hb3⟩
       have HL2 := Lib.hid (show l2.length = l.length by rw [hd3.1, ← HLL.out])
       have HDD := Lib.hid hd3
       have hD3 : Below w2.heap.size w2 w3 := (Below.refl _ _).drew.trans hb3
       obtain ⟨y0, yf, y2⟩ := HC2.out _ hD3
       have y3 : X < w3.heap.size + 1 := by omega
       have HO3 := Lib.hid ho3
       have HD3 := Lib.hid hD3
       clear ho3 hb3 hD3 hd3 kc)
    | (refine step_append_any _ rfl _ _ _ (by rfl) 0 23 i1 _ 1 24 Tryz.underlying37 hi1 hz10 hz11 hz12 rfl (by omega) (.slice AW was.length cW) was.length was (by rfl) (own_below (own_below HW2.out.row HD3.out) (below_new _ _)) _ 1 1 _ (by rfl) (Reads.new _ _ rfl) (by simp [Value.oneCell']) (fun e => by cases e) (by simp only [maxLen]; omega) (by omega) (Nat.zero_le _) ?_
       intro v4 w4 hown4 hg4 hat4
       obtain ⟨A4, k4, rfl, hk4⟩ := own_form hown4
       have HO4 := Lib.hid hown4
       have HG4 := Lib.hid hg4
       have HA4 := Lib.hid hat4
       have hX4 := ((HX2.out.below HD3.out HX2.out.lt).alloc (.cells #[.slice A3 l.length k3] 23)).mod (Mod.of_grown hg4) (fun e => own_blk_ne HW2.out.row HX2.out (by decide) e.symm)
       have q0 := hX4.frozen 11
       have q1 : ∃ u, w4.cell? ⟨X, 11, none⟩ = some u := ⟨_, (hX4.cell 11).trans (by rw [Array.getElem?_setIfInBounds_ne (by decide)]; exact HH.out.k1)⟩
       have q2 := hX4.lt
       obtain ⟨qv, q1⟩ := q1
       have HX4 := Lib.hid hX4
       clear hown4 hg4 hat4 hX4))
  all_goals
    go_wp2_with fail
    go_end0
    obtain ⟨r1, r2, r3⟩ := add_end HH.out.k0 HH.out.k1 HLEN.out HX4.out HM2.out HK2.out HW2.out HX2.out HR2.out HD3.out HL2.out HO3.out HO4.out HG4.out HA4.out
    refine ⟨rfl, A1, A4, k1, k4, _, l2, r1, r2, ?_, r3.mono (fun b _ h => ?_), fun b hb => ?_, fun b hb => ?_⟩
    · have hm4 : Mod (fun b => some b = (Value.slice AW was.length cW).ownBlock) _ _ := Mod.of_grown HG4.out
      have h3 := (HDD.out.low (lo' := w2.heap.size) (Nat.le_refl _)).below (below_new w3 (.cells #[.slice A3 l.length k3] 23))
      have h4 := h3.mod hm4 (fun b hb => .inr (NotInt.of_own (own_below (own_below HW2.out.row HD3.out) (below_new _ _)) (by decide) hb.symm))
      have h5 := h4.mod (mod_set1 w4 X 11 (.slice A4 (was.length + 1) k4)) (fun b hb => by
        injection hb with hb
        subst hb
        exact .inr (NotInt.of_blk HX4.out (by decide)))
      exact h5.low HM2.out.size
    · rcases h with h | (h | h) | h
      · exact .inl h
      · exact .inl h
      · exact .inr (.inl h)
      · exact .inr (.inr h)
    · rcases HA1.out with h | h
      · exact .inl (h ▸ hb)
      · have e := h.symm.trans hb
        injection e with e
        simp at e
        exact .inr (by omega)
    · rcases HA4.out with h | h
      · exact .inl (h ▸ hb)
      · have e := h.symm.trans hb
        injection e with e
        simp at e
        have := HD3.out.size
        have := HM2.out.size
        exact .inr (by omega)


end Go.Proofs.YteminkohgagedaaGreat.BkNodes
