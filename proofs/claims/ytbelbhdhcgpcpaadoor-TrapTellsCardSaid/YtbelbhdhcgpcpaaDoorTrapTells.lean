/- The statement TrapTells: every error, wrapped by every wheres: its number, where it was, its path, its text; the lists kept stay apart. -/
import Derived.Test.YtbelbhdhcgpcpaaDoorTrapIs
import Derived.Test.YtbelbhdhcgpcpaaDoorTrapTell
import Derived.Test.YtbelbhdhcgpcpaaDoorTrapPaths
import Derived.Test.YtbelbhdhcgpcpaaDoorDgt
import Derived.Test.YtbelbhdhcgpcpaaDoorBkApTexts
import Derived.DataShut
namespace Go.Proofs.YtbelbhdhcgpcpaaDoor.Trap
open Go.RowKit Go.Proofs.YtbelbhdhcgpcpaaDoor.Base Go.Proofs.YtbelbhdhcgpcpaaDoor.Str Go.Proofs.YtbelbhdhcgpcpaaDoor.Bk
set_option linter.unusedVariables false
set_option linter.unusedSimpArgs false

/-- An error, or none where its number says so. -/
def ErrV (w : World) (n at_ : Int) (l : List ByteArray) (v : Value) : Prop := (n = 0 → v = .nilIface) ∧ (n ≠ 0 → ErrAt w n at_ l v)
theorem ErrV.below {w w' : World} {n a : Int} {l : List ByteArray} {v : Value} (h : ErrV w n a l v) (hb : Below w.heap.size w w') : ErrV w' n a l v := ⟨h.1, fun hn => (h.2 hn).below hb⟩
theorem new_v (n at_ : Int) (w : World) : Calls Tryd.prog 23 #[.int .i64 n, .int .i64 at_] w fun e w' => ∃ v, e = .returned v ∧ ErrV w' n at_ [] v ∧ Below w.heap.size w w' := by
  by_cases hn : n = 0
  · subst hn
    refine (new_none at_ w).mono ?_
    rintro e w1 ⟨rfl, rfl⟩
    exact ⟨_, rfl, ⟨fun _ => rfl, fun h => absurd rfl h⟩, Below.refl _ _⟩
  · refine (new_some n at_ hn w).mono ?_
    rintro e w1 ⟨v, rfl, h, hb⟩
    exact ⟨v, rfl, ⟨fun h0 => absurd h0 hn, fun _ => h⟩, hb⟩
theorem in_v {n at_ : Int} {l : List ByteArray} {v : Value} {w : World} (s : ByteArray) (h : ErrV w n at_ l v) : Calls Tryd.prog 25 #[v, .string s] w fun e w' => ∃ v', e = .returned v' ∧ ErrV w' n at_ (s :: l) v' ∧ Below w.heap.size w w' := by
  by_cases hn : n = 0
  · have hv := h.1 hn
    subst hv
    refine (in_none s w).mono ?_
    rintro e w1 ⟨rfl, rfl⟩
    exact ⟨_, rfl, ⟨fun _ => rfl, fun h => absurd hn h⟩, Below.refl _ _⟩
  · refine (in_some s (h.2 hn)).mono ?_
    rintro e w1 ⟨v', rfl, h', hb⟩
    exact ⟨v', rfl, ⟨fun h0 => absurd h0 hn, fun _ => h'⟩, hb⟩
theorem at_nil (w : World) : Calls Tryd.prog 27 #[.nilIface] w fun e w' => e = .returned (.int .i64 0) ∧ Below w.heap.size w w' := by
  have hF : ∀ (a b : Value) (w : World), (Instr.field 81 (.agg #[a, b]) 1).run Tryd.prog w = .ok b w := fun a b w => by simp [go_sem, Instr.field, run_underlying Tryd.underlying81, part, asAgg]
  go_enter Tryd.func27, Tryd.ntmps27
  go_wp2_with (first | (go_at_call 47; refine (first_nil _).mono ?_; rintro e w9 ⟨rfl, hb⟩))
  go_ret
  exact ⟨rfl, hb⟩
theorem path_nil (w : World) : Calls Tryd.prog 28 #[.nilIface] w fun e w' => e = .returned (.slice none 0 0) ∧ Below w.heap.size w w' := by
  have HB := Lib.hid (bel1 w (.cells #[.pointer none] 83))
  go_enter Tryd.func28, Tryd.ntmps28
  go_wp2_with fail
  go_loopw [0, 3] (fun u0 u3 wr => u0 = .nilIface ∧ u3 = .slice none 0 0 ∧ Hid (Below w.heap.size w wr)) (fun _ _ _ => 0)
  case atStart => exact ⟨rfl, rfl, HB⟩
  case round =>
    obtain ⟨rfl, rfl, HBr⟩ := hrel
    go_wp2_with (first | (go_at_call 48; refine (As_nil _ _).mono ?_; rintro e w9 ⟨rfl, rfl⟩))
    go_ret
    exact ⟨rfl, HBr.out⟩
theorem is_nil_any (m : Int) (w : World) : Calls Tryd.prog 29 #[.nilIface, .int .i64 m] w fun e w' => e = .returned (.bool (m == 0)) ∧ w' = w := by
  by_cases hm : m = 0
  · subst hm
    exact is_nil w
  · have p1 : (m == 0) = false := beq_eq_false_iff_ne.mpr hm
    go_enter Tryd.func29, Tryd.ntmps29
    go_wp2
    go_ret
    exact ⟨congrArg (fun b => Ending.returned (Value.bool b)) p1.symm, rfl⟩
theorem own_one (w : World) (v : Value) (t : TypeId) (h1 : v.oneCell' = true) : (w.alloc (.cells #[v] t)).ownsRow w.heap.size t 1 (.slice (some ⟨w.heap.size, 0, none⟩) 1 1) 1 [v] :=
  ⟨rfl, .inr ⟨w.heap.size, 1, #[v], rfl, Nat.le_refl _, Blk.new w t #[v], Nat.le_refl _, by decide, by simp, rfl⟩⟩
theorem rev_take {l : List ByteArray} {k : Nat} (h : k < l.length) : (l.take (k + 1)).reverse = l[k] :: (l.take k).reverse := by
  rw [List.take_succ_eq_append_getElem h, List.reverse_append]; rfl
theorem txt_cat (s : ByteArray) (n a : Int) (l : List ByteArray) : (s ++ ⟨#[58, 32]⟩) ++ ⟨(errText n a l).toArray⟩ = ⟨(errText n a (s :: l)).toArray⟩ := seen_cat s (errText n a l)
/-- What the loop leaves. -/
structure TInv (w : World) (n at_ : Int) (l : List ByteArray) (e want path : Value) : Prop where
  err : ErrV w n at_ l e
  want : want = .string ⟨(errText n at_ l).toArray⟩
  path : ∃ A c, path = .slice A l.length c ∧ w.ownsRow 0 9 1 (.slice A l.length c) l.length (enc sc l)
theorem TInv.below {w w' : World} {n a : Int} {l : List ByteArray} {e u p : Value} (h : TInv w n a l e u p) (hb : Below w.heap.size w w') : TInv w' n a l e u p :=
  ⟨h.err.below hb, h.want, by obtain ⟨A, c, h1, h2⟩ := h.path; exact ⟨A, c, h1, own_below h2 hb⟩⟩

theorem bel_mod {S : Nat → Prop} {w0 w w' : World} (h : Below w0.heap.size w0 w) (m : Mod S w w') (hS : ∀ b, S b → w0.heap.size ≤ b) : Below w0.heap.size w0 w' :=
  ⟨m.os.trans h.os, m.tape.trans h.tape, m.output.trans h.output, Nat.le_trans h.size m.size, fun i hi => (m.block i (Nat.lt_of_lt_of_le hi h.size) (fun hs => by have := hS i hs; omega)).trans (h.block i hi)⟩
/-- What an error tells, through its interface. -/
theorem err_calls {n a : Int} (hn : i64r n) (ha : i64r a) {L : List ByteArray} {w : World} {tv : TypeId} {bv : Nat} (h : ErrAt w n a L (.iface tv (.pointer (some ⟨bv, 0, none⟩)))) (hl : L.length ≤ 40) (hs : ∀ s ∈ L, s.size ≤ 100) (ht : Tab w) :
    (tv = 60 ∧ ∀ W, Below w.heap.size w W → Calls Tryd.prog 32 #[.pointer (some ⟨bv, 0, none⟩)] W fun e w' => e = .returned (.string ⟨(errText n a L).toArray⟩) ∧ Below W.heap.size W w') ∨
    (tv = 83 ∧ ∀ W, Below w.heap.size w W → Calls Tryd.prog 142 #[.pointer (some ⟨bv, 0, none⟩)] W fun e w' => e = .returned (.string ⟨(errText n a L).toArray⟩) ∧ Below W.heap.size W w') := by
  cases L with
  | nil =>
    obtain ⟨b, e, hb⟩ := h
    injection e with e1 e2
    injection e2 with e2
    injection e2 with e2
    injection e2 with e2
    subst e1 e2
    exact .inl ⟨rfl, fun W hW => error_trap_any bv n a hn ha W (ht.below hW) (hb.below hW hb.lt)⟩
  | cons s l =>
    obtain ⟨b, u, e, hb, hu⟩ := h
    injection e with e1 e2
    injection e2 with e2
    injection e2 with e2
    injection e2 with e2
    subst e1 e2
    exact .inr ⟨rfl, fun W hW => error_seen_any n a hn ha l s bv u W (by simp at hl; omega) hs (ht.below hW) (hb.below hW hb.lt) (hu.below hW)⟩
theorem error_none (w : World) : Calls Tryd.prog 32 #[.pointer none] w fun e w' => e = .returned (.string ⟨#[]⟩) ∧ w' = w := by
  go_enter Tryd.func32, Tryd.ntmps32
  go_wp2
  go_ret
  exact ⟨rfl, rfl⟩
theorem bk_nil (w : World) (X : Nat) (cs : Array Value) (h0 : cs[0]? = some (.slice none 0 0)) (h1 : cs[1]? = some (.slice none 0 0)) : BkTexts.BK w X cs [] [] (fun _ => []) none none 0 0 :=
  ⟨h0, h1, Kd.nil (by omega), Kd.nil (by omega), rfl, fun b hb => by simp [Value.ownBlock] at hb⟩
def bookNil : Array Value := #[.slice none 0 0, .slice none 0 0, .slice none 0 0, .slice none 0 0, .slice none 0 0, .slice none 0 0, .slice none 0 0, .slice none 0 0, .slice none 0 0, .slice none 0 0, .slice none 0 0, .slice none 0 0]
set_option maxRecDepth 100000 in
set_option maxHeartbeats 8000000 in
theorem tells_good (n at_ : Int) (A : Option Addr) (l : List ByteArray) (c : Nat) (other : Int) (w : World) (hg : Door w) (ht : Tab w) (hA : Strs w A l) (hl : l.length ≤ 40) (hn : i64r n) (ha : i64r at_) :
    Calls Tryd.prog 7 #[.int .i64 n, .int .i64 at_, .slice A l.length c, .int .i64 other] w fun e w' => e = .returned (.bool true) ∧ Below w.heap.size w w' := by
  have p1 : decide ((l.length : Int) > 40) = false := decide_eq_false (by omega)
  have HG := Lib.hid hg
  have HT := Lib.hid ht
  have HA := Lib.hid hA
  have l1 := Lib.itoa_length_le n hn.1 hn.2
  have l2 := Lib.itoa_length_le at_ ha.1 ha.2
  have K1 := Lib.hid (fun W => Dg.digits_any n hn.1 hn.2 W)
  have K2 := Lib.hid (fun W => Dg.digits_any at_ ha.1 ha.2 W)
  have hw0 : (((⟨#[101, 114, 114, 111, 114, 32]⟩ : ByteArray) ++ ⟨(Lib.itoa n).toArray⟩) ++ ⟨#[32, 97, 116, 32]⟩) ++ ⟨(Lib.itoa at_).toArray⟩ = ⟨(errText n at_ []).toArray⟩ := trap_cat (Lib.itoa n) (Lib.itoa at_)
  have HW0 := Lib.hid hw0
  generalize Lib.itoa n = tn at l1 K1 HW0
  generalize Lib.itoa at_ = ta at l2 K2 HW0
  have q1 : ¬ 9223372036854775807 < 6 + tn.length := by omega
  have q2 : ¬ 9223372036854775807 < 6 + tn.length + 4 := by omega
  have q3 : ¬ 9223372036854775807 < 6 + tn.length + 4 + ta.length := by omega
  have HN := Lib.hid hn
  have HAT := Lib.hid ha
  clear hg ht hA hw0 hn ha
  go_enter Tryd.func7, Tryd.ntmps7
  go_upto_block 0 with (first
    | (go_at_call 22; refine (alive_any _ HG.out).mono ?_; rintro e w1 ⟨rfl, hb1⟩; have HB1 := Lib.hid hb1; clear hb1)
    | (go_at_call 23; refine (new_v n at_ _).mono ?_; rintro e w2 ⟨v2, rfl, h2, hb2⟩; have HE2 := Lib.hid h2; have HB2 := Lib.hid (below_then HB1.out hb2); clear h2 hb2)
    | (go_at_call 24; revert HB3; intro HB3; refine (K2.out _).mono ?_; rintro e w4 ⟨rfl, hb4⟩; have HB4 := Lib.hid (below_then HB3.out hb4); have HE4 := Lib.hid (HE3.out.below hb4); clear hb4)
    | (go_at_call 24; refine (K1.out _).mono ?_; rintro e w3 ⟨rfl, hb3⟩; have HB3 := Lib.hid (below_then HB2.out hb3); have HE3 := Lib.hid (HE2.out.below hb3); clear hb3))
  have HW := Lib.hid (HW0.out)
  clear p1 q1 q2 q3 HW0 K1 K2 l1 l2
  go_cut [9, 10, 11] (fun e want path wx => Hid (TInv wx n at_ l.reverse e want path) ∧ Hid (Below w.heap.size w wx) ∧ ∀ s ∈ l, s.size ≤ 100)
  case first =>
    go_wp2_with fail
    go_loopw [9, 10, 11, 12] (fun e want path i wr => ∃ k : Nat, k ≤ l.length ∧ i = .int .i64 k ∧ Hid (TInv wr n at_ (l.take k).reverse e want path) ∧ Hid (Below w.heap.size w wr) ∧ Hid (∀ s ∈ l.take k, s.size ≤ 100)) (fun _ _ _ i _ => l.length - (intOf i).toNat)
    case atStart => exact ⟨0, Nat.zero_le _, rfl, Lib.hid ⟨HE4.out, congrArg Value.string HW.out, none, 0, rfl, own_nil _ _ _ _⟩, HB4, Lib.hid (by simp)⟩
    case round =>
      obtain ⟨k, hk, rfl, HI, HBr, HS⟩ := hrel
      by_cases hlt : k < l.length
      · obtain ⟨ad, rfl, a1⟩ := (HA.out.below HBr.out).at_ k hlt
        have HRT := Lib.hid (rev_take hlt)
        have HTK := Lib.hid (List.take_succ_eq_append_getElem hlt)
        generalize l[k] = s at a1 HRT HTK
        obtain ⟨hI1, hI2, B, cb, hI3, hI4⟩ := HI.out
        subst hI2 hI3
        have hlen := errText_len n at_ HN.out HAT.out (l.take k).reverse (by simpa using HS.out)
        have hlr : (l.take k).reverse.length = k := by simp; omega
        rw [hlr] at hlen
        have HLR := Lib.hid hlr
        have HCT := Lib.hid (txt_cat s n at_ (l.take k).reverse)
        have HI1 := Lib.hid hI1
        have HI4 := Lib.hid (Strs.of_own hI4 rfl)
        clear HI hI1 hI4 hlr
        by_cases hs : s.size ≤ 100
        · have d1 : decide ((s.size : Int) > 100) = false := decide_eq_false (by omega)
          generalize errText n at_ (l.take k).reverse = tx at hlen HCT
          have q1 : ¬ 9223372036854775807 < s.size + 2 := by omega
          have q2 : ¬ 9223372036854775807 < s.size + 2 + tx.length := by omega
          obtain ⟨i0, hi0, hz0, hz1, hz2⟩ := info_parts1 strInfo
          go_wp2_with (first
            | (go_at_call 25; refine (in_v s HI1.out).mono ?_; rintro e w3 ⟨v3, rfl, h3, hb3⟩; have HE3 := Lib.hid h3; have HB3 := Lib.hid hb3; have HP3 := Lib.hid (HI4.out.below hb3); have a3 := (hb3.cell (cell_lt a1)).trans a1; have z3 := cell_lt a3; clear h3 hb3)
            | (refine wpList_append_any _ (by rfl) _ _ _ (by rfl) w3.heap.size 9 i0 _ 1 16 Tryd.underlying39 hi0 hz0 hz1 hz2 rfl (by omega) (.slice (some ⟨w3.heap.size, 0, none⟩) 1 1) 1 [.string s] (by rfl) (own_one w3 (.string s) 9 rfl) _ k cb _ (by rfl) (by rw [← HLR.out]; exact HP3.out.below (bel1 _ _)) (by intro u hu; exact sc_one _ u hu) (fun e => by rw [← HLR.out]; exact Arr.len HP3.out sc_len (by omega) e) (by simp only [maxLen]; omega) (by omega) (by simp) ?_; intro v4 w4 hown4 hg4 hat4))
          have hB4 : Below w3.heap.size w3 w4 := (Mod.trans (S := fun _ => False) (Mod.of_below (bel1 w3 (.cells #[.string s] 9))) (Mod.of_grown hg4) (fun b hb e => by simp only [Value.ownBlock, Option.some.injEq] at e; omega)).below (fun _ _ h => h)
          obtain ⟨A5, c5, rfl, hc5⟩ := own_form hown4
          have hlk : k + 1 ≤ l.length := hlt
          refine ⟨⟨k + 1, hlk, by go_num, Lib.hid ?_, Lib.hid (below_then HBr.out (below_then HB3.out hB4)), Lib.hid ?_⟩, by simp [intOf]; omega⟩
          · rw [HRT.out]
            refine ⟨HE3.out.below hB4, congrArg Value.string HCT.out, A5, c5, by rw [List.length_cons, HLR.out, Nat.add_comm], ?_⟩
            have ho := own_zero hown4
            have e : 1 + k = (s :: (l.take k).reverse).length := by rw [List.length_cons, HLR.out, Nat.add_comm]
            rw [e] at ho
            exact ho
          · rw [HTK.out]
            intro x hx
            rcases List.mem_append.1 hx with hx | hx
            · exact HS.out x hx
            · rw [List.mem_singleton.1 hx]; exact hs
        · have d1 : decide ((s.size : Int) > 100) = true := decide_eq_true (by omega)
          go_wp2_with fail
          go_ret
          exact ⟨rfl, HBr.out⟩
      · have hkt : k = l.length := by omega
        subst hkt
        go_wp2_with fail
        go_meet
        rw [List.take_length] at HI HS
        exact ⟨HI, HBr, HS.out⟩
  case rest =>
    obtain ⟨HI, HBx, hs⟩ := hcut
    have hlr : l.reverse.length = l.length := List.length_reverse
    have hs2 : ∀ s ∈ l.reverse, s.size ≤ 100 := by simpa using hs
    generalize l.reverse = L at HI hlr hs2
    have hL : L.length ≤ 40 := by omega
    obtain ⟨hI1, hI2, B, cb, hI3, hI4⟩ := HI.out
    subst hI2 hI3
    have HI1 := Lib.hid hI1
    have HI4 := Lib.hid hI4
    have hlen := errText_len n at_ HN.out HAT.out L hs2
    have HS := Lib.hid hs2
    clear HI hI1 hI4 hlr hs hs2 HW
    by_cases hn : n = 0
    · have hv := HI1.out.1 hn
      subst hv hn
      have KI := Lib.hid (fun W => is_nil_any other W)
      go_wp2_with (first
        | (go_at_call 26; refine (errno_nil _).mono ?_; rintro e w5 ⟨rfl, hb5⟩; have HB5 := Lib.hid (below_then HBx.out hb5); clear hb5)
        | (go_at_call 27; refine (at_nil _).mono ?_; rintro e w6 ⟨rfl, hb6⟩; have HB6 := Lib.hid (below_then HB5.out hb6); clear hb6)
        | (go_at_call 28; refine (path_nil _).mono ?_; rintro e w7 ⟨rfl, hb7⟩; have HB7 := Lib.hid (below_then HB6.out hb7); clear hb7)
        | (go_at_call 29; refine (KI.out _).mono ?_; rintro e w8 ⟨rfl, h8⟩; rw [h8]; clear h8))
      go_ret
      exact ⟨rfl, HB7.out⟩
    · have HE := Lib.hid (HI1.out.2 hn)
      have p1 : (n == 0) = false := beq_eq_false_iff_ne.mpr hn
      have HNN := Lib.hid hn
      clear HI1 hn
      obtain ⟨tv, bv, rfl⟩ := HE.out.iface
      obtain ⟨X, hX⟩ : ∃ X, wc.heap.size = X := ⟨_, rfl⟩
      have hbk : Blk (wc.alloc (.cells bookNil 58)) X 58 bookNil := hX ▸ Blk.new wc _ _
      have HBK := Lib.hid hbk
      have HX := Lib.hid hX
      have HB5 := Lib.hid (bel1 wc (.cells bookNil 58))
      clear hbk
      unfold bookNil at HBK HB5
      go_wp2_with (first
        | (go_at_call 28; refine (path_any _ (HG.out.below (below_then HBx.out HB5.out)) (HE.out.below HB5.out) (by omega)).mono ?_; rintro e w6 ⟨A6, c6, rfl, hO6, hb6⟩; have HO6 := Lib.hid hO6; have HB6 := Lib.hid hb6; have HBK6 := Lib.hid (HBK.out.below hb6 HBK.out.lt); clear hb6 hO6))
      have HZ6 := Lib.hid (below_then HB5.out HB6.out)
      clear HB6
      have hX6 : wc.heap.size ≤ X := by omega
      have hb6 : ∀ b, (Value.slice A6 L.length c6).ownBlock = some b → wc.heap.size ≤ b := fun b hb => by
        have := (own_block HO6.out b hb).1
        simp at this
        omega
      refine (BkTexts.add_any X _ [] [] (fun _ => []) none none 0 0 A6 c6 L w6 HBK6.out (bk_nil _ _ _ rfl rfl) (own_zero HO6.out) (fun b hb ⟨v, hv, _⟩ => by simp at hv) (by omega) (by simp)).mono ?_
      rintro e w7 ⟨rfl, AK, AW, cK, cW, v2', hblk7, hbk7, hm7, hk7, hw7⟩
      have HZ7 := Lib.hid (bel_mod HZ6.out hm7 (fun b hb => by rcases hb with rfl | hb | hb; exact hX6; simp [Value.ownBlock] at hb; simp [Value.ownBlock] at hb))
      have hz67 := hm7.size
      have HK7 := Lib.hid (show ∀ b, (Value.slice AK 1 cK).ownBlock = some b → wc.heap.size ≤ b from fun b hb => by
        rcases hk7 b hb with h | h
        · simp [Value.ownBlock] at h
        · exact Nat.le_trans HZ6.out.size h)
      have HW7 := Lib.hid (show ∀ b, (Value.slice AW 1 cW).ownBlock = some b → wc.heap.size ≤ b from fun b hb => by
        rcases hw7 b hb with h | h
        · simp [Value.ownBlock] at h
        · exact Nat.le_trans HZ6.out.size h)
      clear hm7 hk7 hw7
      simp only [List.nil_append, List.length_nil, Nat.zero_add] at hblk7 hbk7
      have HBK7 := Lib.hid hblk7
      have HB7 := Lib.hid hbk7
      clear hblk7 hbk7
      go_wp2_with (first
        | (go_at_call 28; refine (path_any _ (HG.out.below (below_then HBx.out HZ7.out)) (HE.out.below HZ7.out) (by omega)).mono ?_; rintro e w8 ⟨A8, c8, rfl, hO8, hb8⟩; have HO8 := Lib.hid hO8; have HB8 := Lib.hid (HB7.out.below hb8); have HBK8 := Lib.hid (HBK7.out.below hb8 HBK7.out.lt); have HZ8 := Lib.hid (below_then HZ7.out hb8); clear hb8 hO8))
      have hb8 : ∀ b, (Value.slice A8 L.length c8).ownBlock = some b → w7.heap.size ≤ b := fun b hb => (own_block HO8.out b hb).1
      refine (BkTexts.add_any X _ [.slice A6 L.length c6] [v2'] _ AK AW cK cW A8 c8 L w8 HBK8.out HB8.out (own_zero HO8.out) (fun b hb hv => by
        have h1 := hb8 b hb
        obtain ⟨v, hv, hvb⟩ := hv
        rw [List.mem_singleton] at hv
        subst hv
        have h2 := HB7.out.kept.block b ⟨_, List.mem_singleton.2 rfl, hvb⟩
        omega) (by omega) (by simp)).mono ?_
      rintro e w9 ⟨rfl, AK2, AW2, cK2, cW2, v3', hblk9, hbk9, hm9, hk9, hw9⟩
      have HZ9 := Lib.hid (bel_mod HZ8.out hm9 (fun b hb => by
        rcases hb with rfl | hb | hb
        · exact hX6
        · exact HK7.out b hb
        · exact HW7.out b hb))
      clear hm9 hk9 hw9
      simp only [List.length_singleton, List.singleton_append, Nat.reduceAdd] at hblk9 hbk9
      have HBK9 := Lib.hid hblk9
      have HB9 := Lib.hid hbk9
      clear hblk9 hbk9
      have HA9 := Lib.hid (show Strs w9 A6 L from by
        have h := HB9.out.kept.own 0 _ rfl
        exact Strs.of_own h rfl)
      have HC9 := Lib.hid (Strs.of_own (own_below HI4.out HZ9.out) rfl)
      have HV := Lib.hid (show ∀ b, InVs [.slice A6 L.length c6, .slice A8 L.length c8] b → wc.heap.size ≤ b from fun b ⟨v, hv, hb⟩ => by
        simp only [List.mem_cons, List.not_mem_nil, or_false] at hv
        rcases hv with rfl | rfl
        · exact hb6 b hb
        · have := hb8 b hb
          have := HZ7.out.size
          omega)
      clear hb6 hb8 hX6 hz67
      have hml : ∀ i, (BkTexts.more (BkTexts.more (fun _ => []) 0 L) 1 L i).length ≤ 90000 := fun i => by
        unfold BkTexts.more
        split
        · omega
        · split
          · omega
          · simp
      have HML := Lib.hid hml
      clear hml
      have hmT := methodErrT
      have hmS := methodErrS
      have KA := Lib.hid (fun (W : World) (hb : Below w9.heap.size w9 W) => BkTexts.apart_any X _ _ _ _ AK2 AW2 cK2 cW2 W (HBK9.out.below hb HBK9.out.lt) (HB9.out.below hb) rfl rfl rfl rfl rfl (by simp) HML.out)
      have KI := Lib.hid (fun (W : World) (hb : Below w9.heap.size w9 W) => is_some other W HNN.out (HE.out.below (below_then HZ9.out hb)))
      have HEZ := Lib.hid (fun (W : World) (hb : Below w9.heap.size w9 W) => HE.out.below (below_then HZ9.out hb))
      have HDZ := Lib.hid (fun (W : World) (hb : Below w9.heap.size w9 W) => HG.out.below (below_then HBx.out (below_then HZ9.out hb)))
      have KS := Lib.hid (fun (W : World) (hb : Below w9.heap.size w9 W) => BkTexts.same_yes A6 B L c6 cb W (HA9.out.below hb) (HC9.out.below hb) (by omega))
      have KE := Lib.hid (err_calls HN.out HAT.out HE.out hL HS.out (HT.out.below HBx.out))
      rcases KE.out with ⟨rfl, ke⟩ | ⟨rfl, ke⟩
      all_goals
        have KE2 := Lib.hid (fun (W : World) (hb : Below w9.heap.size w9 W) => ke W (below_then HZ9.out hb))
        clear ke KE
        generalize errText n at_ L = tx at KE2 hlen
        go_wp2_with (first
          | (go_at_call 26; refine (errno_some _ (HDZ.out _ (Below.refl _ _)) (HEZ.out _ (Below.refl _ _))).mono ?_; rintro e w10 ⟨rfl, hb⟩; have H10 := Lib.hid hb; clear hb)
          | (go_at_call 27; refine (at_some _ (HDZ.out _ H10.out) (HEZ.out _ H10.out)).mono ?_; rintro e w11 ⟨rfl, hb⟩; have H11 := Lib.hid (below_then H10.out hb); clear hb)
          | (go_at_call 32; revert H15; intro H15; refine (error_none _).mono ?_; rintro e w16 ⟨rfl, h16⟩; rw [h16]; clear h16)
          | (go_at_call 32; refine (KE2.out _ H11.out).mono ?_; rintro e w12 ⟨rfl, hb⟩; have H12 := Lib.hid (below_then H11.out hb); clear hb)
          | (go_at_call 142; refine (KE2.out _ H11.out).mono ?_; rintro e w12 ⟨rfl, hb⟩; have H12 := Lib.hid (below_then H11.out hb); clear hb)
          | (go_at_call 31; refine (KS.out _ H12.out).mono ?_; rintro e w13 ⟨rfl, hb⟩; have H13 := Lib.hid (below_then H12.out hb); clear hb)
          | (go_at_call 29; refine (KI.out _ H13.out).mono ?_; rintro e w15 ⟨rfl, hb⟩; have H15 := Lib.hid (below_then H13.out hb); clear hb)
          | (go_at_call 33; refine (KA.out _ H15.out).mono ?_; rintro e w17 ⟨rfl, hm⟩; have H17 := Lib.hid hm; clear hm))
        go_ret
        exact ⟨rfl, below_then HBx.out (bel_mod (below_then HZ9.out H15.out) H17.out HV.out)⟩

theorem i64r_wf {n : Int} (h : (Lit.int .i64 n).wf = true) : i64r n := by
  have := (Lit.wf_int_iff .i64 n).1 h
  exact this
set_option maxRecDepth 100000 in
theorem tells_walk (n at_ : Int) (A : Option Addr) (l : List ByteArray) (c : Nat) (other : Int) (w : World) (hd : Tab w ∧ Door w) (hn : (Lit.int .i64 n).wf = true) (ha : (Lit.int .i64 at_).wf = true) (hA : Strs w A l) (ho : (Lit.int .i64 other).wf = true) :
    Calls Tryd.prog 7 #[.int .i64 n, .int .i64 at_, .slice A l.length c, .int .i64 other] w fun e w' => e = .returned (.bool true) ∧ Below w.heap.size w w' := by
  obtain ⟨ht, hg⟩ := hd
  by_cases hl : l.length ≤ 40
  · exact tells_good n at_ A l c other w hg ht hA hl (i64r_wf hn) (i64r_wf ha)
  · have p1 : decide ((l.length : Int) > 40) = true := decide_eq_true (by omega)
    have HG := Lib.hid hg
    clear hn ha ho ht hg hA hl
    generalize l.length = x at p1 ⊢
    go_enter Tryd.func7, Tryd.ntmps7
    go_wp2_with (first | (go_at_call 22; refine (alive_any _ HG.out).mono ?_; rintro e w1 ⟨rfl, hb1⟩))
    go_ret
    exact ⟨rfl, hb1⟩
end Go.Proofs.YtbelbhdhcgpcpaaDoor.Trap
