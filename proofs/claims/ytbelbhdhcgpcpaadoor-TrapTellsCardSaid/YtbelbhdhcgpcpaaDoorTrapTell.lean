/- What an error tells: Error of a trap, and of one that is seen from somewhere. -/
import Derived.Test.YtbelbhdhcgpcpaaDoorTrapAlive
import Derived.Test.YtbelbhdhcgpcpaaDoorBuilder
import Derived.Lib.ItoaLen
namespace Go.Proofs.YtbelbhdhcgpcpaaDoor.Trap
open Go.RowKit Go.Proofs.YtbelbhdhcgpcpaaDoor.Base Go.Proofs.YtbelbhdhcgpcpaaDoor.Str
set_option linter.unusedVariables false
set_option linter.unusedSimpArgs false

def i64r (n : Int) : Prop := -9223372036854775808 ≤ n ∧ n ≤ 9223372036854775807
def trapText (n a : Int) : List UInt8 := [101, 114, 114, 111, 114, 32] ++ Lib.itoa n ++ [32, 97, 116, 32] ++ Lib.itoa a
def errText (n a : Int) : List ByteArray → List UInt8
  | [] => trapText n a
  | s :: l => s.data.toList ++ [58, 32] ++ errText n a l

theorem trap_cat (tn ta : List UInt8) : (((⟨#[101, 114, 114, 111, 114, 32]⟩ : ByteArray) ++ ⟨tn.toArray⟩) ++ ⟨#[32, 97, 116, 32]⟩) ++ ⟨ta.toArray⟩ = ⟨([101, 114, 114, 111, 114, 32] ++ tn ++ [32, 97, 116, 32] ++ ta).toArray⟩ := by
  apply ByteArray.ext
  simp
theorem seen_cat (s : ByteArray) (t : List UInt8) : (s ++ ⟨#[58, 32]⟩) ++ ⟨t.toArray⟩ = ⟨(s.data.toList ++ [58, 32] ++ t).toArray⟩ := by
  apply ByteArray.ext
  simp
set_option maxRecDepth 100000 in
theorem error_trap_any (b : Nat) (n a : Int) (hn : i64r n) (ha : i64r a) (w : World) (ht : Tab w) (h : Blk w b 81 #[.int .i64 n, .int .i64 a]) :
    Calls Tryd.prog 32 #[.pointer (some ⟨b, 0, none⟩)] w fun e w' => e = .returned (.string ⟨(trapText n a).toArray⟩) ∧ Below w.heap.size w w' := by
  have c0 := h.cell 0
  have c1 := h.cell 1
  have c2 := h.lt
  simp only [List.getElem?_toArray, List.getElem?_cons_zero, List.getElem?_cons_succ] at c0 c1
  have HT := Lib.hid ht
  have HH := Lib.hid (show ∀ W, Below w.heap.size w W → W.cell? ⟨b, 0, none⟩ = some (.int .i64 n) ∧ W.cell? ⟨b, 1, none⟩ = some (.int .i64 a) from fun W hb => ⟨(hb.cell (p := ⟨b, 0, none⟩) c2).trans c0, (hb.cell (p := ⟨b, 1, none⟩) c2).trans c1⟩)
  have l1 := Lib.itoa_length_le n hn.1 hn.2
  have l2 := Lib.itoa_length_le a ha.1 ha.2
  have K1 := Lib.hid (fun (W : World) (hb : Below w.heap.size w W) => itoa_any n hn.1 hn.2 W (HT.out.below hb))
  have K2 := Lib.hid (fun (W : World) (hb : Below w.heap.size w W) => itoa_any a ha.1 ha.2 W (HT.out.below hb))
  unfold trapText
  generalize Lib.itoa n = tn at l1 K1 ⊢
  generalize Lib.itoa a = ta at l2 K2 ⊢
  have q1 : ¬ 9223372036854775807 < 6 + tn.length := by omega
  have q2 : ¬ 9223372036854775807 < 6 + tn.length + 4 := by omega
  have q3 : ¬ 9223372036854775807 < 6 + tn.length + 4 + ta.length := by omega
  clear h hn ha ht
  go_enter Tryd.func32, Tryd.ntmps32
  go_wp2_with fail
  go_region_held3 (fun W => W.cell? ⟨b, 0, none⟩ = some (.int .i64 n) ∧ W.cell? ⟨b, 1, none⟩ = some (.int .i64 a))
    (first
      | exact hS
      | exact ⟨c0, c1⟩
      | go_keep)
    (first
      | (go_at_call 51
         revert h1
         intro h1
         refine (K2.out _ hD).mono ?_
         rintro e w6 ⟨rfl, hb⟩
         have hD := hD.trans (hb.mono hD.size)
         have hS := HH.out _ hD)
      | (go_at_call 51
         refine (K1.out _ (Below.refl _ _).drew).mono ?_
         rintro e w5 ⟨rfl, hb⟩
         have hD := (Below.refl w.heap.size w).drew.trans hb
         have hS := HH.out _ hD
         have h1 := True.intro))
  all_goals
    go_wp2_with fail
    go_ret
    exact ⟨congrArg (fun s => Ending.returned (Value.string s)) (trap_cat tn ta), hD⟩

theorem errText_len (n a : Int) (hn : i64r n) (ha : i64r a) : ∀ (l : List ByteArray), (∀ s ∈ l, s.size ≤ 100) → (errText n a l).length ≤ 60 + 102 * l.length
  | [], _ => by
    have l1 := Lib.itoa_length_le n hn.1 hn.2
    have l2 := Lib.itoa_length_le a ha.1 ha.2
    simp [errText, trapText]; omega
  | s :: l, h => by
    have h1 := errText_len n a hn ha l (fun x hx => h x (List.mem_cons_of_mem _ hx))
    have h2 := h s List.mem_cons_self
    have h3 : s.data.toList.length = s.size := by show s.data.toList.length = s.data.size; simp
    simp only [errText, List.length_append, List.length_cons, List.length_nil, h3]
    omega

set_option maxRecDepth 100000 in
theorem error_seen_any (n a : Int) (hn : i64r n) (ha : i64r a) : ∀ (l : List ByteArray) (s : ByteArray) (b : Nat) (u : Value) (w : World), l.length ≤ 100 → (∀ x ∈ s :: l, x.size ≤ 100) → Tab w → Blk w b 85 #[.string s, u] → ErrAt w n a l u →
    Calls Tryd.prog 142 #[.pointer (some ⟨b, 0, none⟩)] w fun e w' => e = .returned (.string ⟨(errText n a (s :: l)).toArray⟩) ∧ Below w.heap.size w w' := by
  intro l
  induction l with
  | nil =>
    intro s b u w hl hx ht h hu
    obtain ⟨c, rfl, hc⟩ := hu
    have c0 := h.cell 0
    have c1 := h.cell 1
    have c2 := h.lt
    have hm := methodErrT
    simp only [List.getElem?_toArray, List.getElem?_cons_zero, List.getElem?_cons_succ] at c0 c1
    have K := Lib.hid (error_trap_any c n a hn ha w.drew (ht) (hc.drewN 1))
    have hs := hx s List.mem_cons_self
    have hlen := errText_len n a hn ha [] (by simp)
    have HCT := Lib.hid (seen_cat s (trapText n a))
    have HH := Lib.hid (show ∀ W, Below w.heap.size w W → W.cell? ⟨b, 0, none⟩ = some (.string s) ∧ W.cell? ⟨b, 1, none⟩ = some (.iface 60 (.pointer (some ⟨c, 0, none⟩))) from fun W hb => ⟨(hb.cell (p := ⟨b, 0, none⟩) c2).trans c0, (hb.cell (p := ⟨b, 1, none⟩) c2).trans c1⟩)
    show Calls _ _ _ _ fun e w' => e = .returned (.string ⟨(s.data.toList ++ [58, 32] ++ trapText n a).toArray⟩) ∧ _
    simp only [errText] at hlen
    generalize trapText n a = tx at K hlen HCT ⊢
    have q1 : ¬ 9223372036854775807 < s.size + 2 := by omega
    have q2 : ¬ 9223372036854775807 < s.size + 2 + tx.length := by simp at hlen; omega
    clear h hc ht hx
    go_enter Tryd.func142, Tryd.ntmps142
    go_wp2_with fail
    go_region_held3 (fun W => W.cell? ⟨b, 0, none⟩ = some (.string s) ∧ W.cell? ⟨b, 1, none⟩ = some (.iface 60 (.pointer (some ⟨c, 0, none⟩))))
      (first
        | exact hS
        | exact ⟨c0, c1⟩
        | go_keep)
      (first
        | (go_at_call 32
           refine K.out.mono ?_
           rintro e w5 ⟨rfl, hb⟩
           have hD := (Below.refl w.heap.size w).drew.trans hb
           have hS := HH.out _ hD))
    all_goals
      go_wp2_with fail
      go_ret
      exact ⟨congrArg (fun s => Ending.returned (Value.string s)) HCT.out, hD⟩
  | cons s2 l ih =>
    intro s b u w hl hx ht h hu
    obtain ⟨c, u2, rfl, hc, hu2⟩ := hu
    have c0 := h.cell 0
    have c1 := h.cell 1
    have c2 := h.lt
    have hm := methodErrS
    simp only [List.getElem?_toArray, List.getElem?_cons_zero, List.getElem?_cons_succ] at c0 c1
    have K := Lib.hid (ih s2 c u2 w.drew (by simp at hl; omega) (fun x hx' => hx x (List.mem_cons_of_mem _ hx')) ht (hc.drewN 1) (hu2.keep (fun _ _ _ h _ => h.drewN 1)))
    have hs := hx s List.mem_cons_self
    have hlen := errText_len n a hn ha (s2 :: l) (fun x hx' => hx x (List.mem_cons_of_mem _ hx'))
    have hl2 : (s2 :: l).length ≤ 100 := hl
    have HCT := Lib.hid (seen_cat s (errText n a (s2 :: l)))
    have HH := Lib.hid (show ∀ W, Below w.heap.size w W → W.cell? ⟨b, 0, none⟩ = some (.string s) ∧ W.cell? ⟨b, 1, none⟩ = some (.iface 83 (.pointer (some ⟨c, 0, none⟩))) from fun W hb => ⟨(hb.cell (p := ⟨b, 0, none⟩) c2).trans c0, (hb.cell (p := ⟨b, 1, none⟩) c2).trans c1⟩)
    show Calls _ _ _ _ fun e w' => e = .returned (.string ⟨(s.data.toList ++ [58, 32] ++ errText n a (s2 :: l)).toArray⟩) ∧ _
    generalize errText n a (s2 :: l) = tx at K hlen HCT ⊢
    have htx : tx.length ≤ 60 + 102 * 100 := Nat.le_trans hlen (by omega)
    have q1 : ¬ 9223372036854775807 < s.size + 2 := by omega
    have q2 : ¬ 9223372036854775807 < s.size + 2 + tx.length := by omega
    clear h hc ht hx hlen hl hl2 hu2 ih
    go_enter Tryd.func142, Tryd.ntmps142
    go_wp2_with fail
    go_region_held3 (fun W => W.cell? ⟨b, 0, none⟩ = some (.string s) ∧ W.cell? ⟨b, 1, none⟩ = some (.iface 83 (.pointer (some ⟨c, 0, none⟩))))
      (first
        | exact hS
        | exact ⟨c0, c1⟩
        | go_keep)
      (first
        | (go_at_call 142
           refine K.out.mono ?_
           rintro e w5 ⟨rfl, hb⟩
           have hD := (Below.refl w.heap.size w).drew.trans hb
           have hS := HH.out _ hD))
    all_goals
      go_wp2_with fail
      go_ret
      exact ⟨congrArg (fun s => Ending.returned (Value.string s)) HCT.out, hD⟩

end Go.Proofs.YtbelbhdhcgpcpaaDoor.Trap
