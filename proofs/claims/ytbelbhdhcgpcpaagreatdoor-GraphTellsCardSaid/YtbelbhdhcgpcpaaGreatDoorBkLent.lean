/- The book's functions over graphs that are lent: LentInts, LentNodes, LentGraph, StaysInts, StaysNodes, StaysGraph. -/
import Derived.Test.YtbelbhdhcgpcpaaGreatDoorBkGraph
namespace Go.Proofs.YtbelbhdhcgpcpaaGreatDoor.BkNodes
open Go.RowKit Go.Proofs.YtbelbhdhcgpcpaaGreatDoor.Base Go.Proofs.YtbelbhdhcgpcpaaGreatDoor.Bk Go.Proofs.YtbelbhdhcgpcpaaGreatDoor.Gr
set_option linter.unusedVariables false
set_option linter.unusedSimpArgs false

theorem lentI_any (A : Option Addr) (l : List Int) (c : Nat) (w : World) (hr : Arr w ic 1 A l) (hl : l.length ≤ 100000) :
    Calls Tryz.prog 23 #[.slice A l.length c] w fun e w' => ∃ B m, e = .returned (.slice B l.length m) ∧ l.length + 1 ≤ m ∧
      w'.ownsRow w.heap.size 3 1 (.slice B (l.length + 1) m) (l.length + 1) (enc ic (l ++ [-77])) ∧ Below w.heap.size w w' := by
  obtain ⟨i0, hi0, hz0, hz1, hz2⟩ := info_parts1 intInfo
  go_enter Tryz.func23, Tryz.ntmps23
  go_wp2_with fail
  refine (BkInts.copy_own A l c w hr hl).mono ?_
  rintro e w1 ⟨v, rfl, hown, hb⟩
  have hz := hb.size
  obtain ⟨B, m, rfl, hm⟩ := own_form hown
  go_wp2_with (first
    | (at_builtin
       refine wpList_append_any _ rfl (.tmp 4) (.tmp 5) _ rfl w.heap.size 3 i0 _ 1 8 Tryz.underlying22 hi0 hz0 hz1 hz2 rfl (by omega) _ l.length (enc ic l) rfl
         (hown.alloc _) (some ⟨w1.heap.size, 0, none⟩) 1 1 [.int .i64 (-77)] rfl (Reads.new w1 _ rfl) (ic_one [-77]) (fun e => by cases e) (by simp only [maxLen]; omega) (by omega) (by simp; omega) ?_
       intro v2 w2 hown2 hg2 hat2
       obtain ⟨B2, m2, rfl, hm2⟩ := own_form hown2
       have hm3 : l.length ≤ m2 := by omega))
  go_ret
  refine ⟨B2, m2, rfl, by omega, by rw [enc_append]; exact hown2, ?_⟩
  refine (hb.trans ((Below.refl _ _).alloc hz _)).grown hg2 (by simp; omega) ?_
  intro k hk
  exact (own_block hown k hk).1
theorem arr_pre {α : Type} {w : World} {f : α → List Value} {s : Nat} {A : Option Addr} {l m : List α} (hf : ∀ x, (f x).length = s) (h : Arr w f s A (l ++ m)) : Arr w f s A l := by
  have h1 := Reads.take h (k := l.length) (by simp)
  rw [enc_append, List.take_append_of_le_length (by rw [enc_len hf]; omega), List.take_of_length_le (by rw [enc_len hf]; omega)] at h1
  exact h1
theorem staysI_any (A B : Option Addr) (l : List Int) (c m : Nat) (w : World) (hl : Arr w ic 1 A l) (hm : Arr w ic 1 B (l ++ [-77])) (hn : l.length ≤ 100000) (hc : l.length + 1 ≤ m) :
    Calls Tryz.prog 43 #[.slice B l.length m, .slice A l.length c] w fun e w' => e = .returned (.bool true) ∧ Below w.heap.size w w' := by
  have HS := Lib.hid (BkInts.same_yes B A l m c w (arr_pre ic_len hm) hl hn)
  have hlen : l.length < (l ++ [(-77 : Int)]).length := by simp
  have HC : Hid (Ints w B (l ++ [-77])) := Lib.hid ⟨hm, by simp; omega⟩
  clear hm hl
  have p1 : (0 : Int) ≤ (l.length : Int) + 1 := by omega
  have p2 : (l.length : Int) + 1 ≤ m := by omega
  go_enter Tryz.func43, Tryz.ntmps43
  go_wp2_with fail
  refine (HS.out).mono ?_
  rintro e w1 ⟨rfl, hb⟩
  obtain ⟨bd, rfl, c0⟩ := (HC.out.below hb).at_ l.length hlen
  simp only [List.getElem_append_right (Nat.le_refl _), Nat.sub_self, List.getElem_singleton] at c0
  go_wp2_with fail
  go_ret
  exact ⟨rfl, hb⟩

/-- What a lent list of nodes is: the row of one more. -/
def LentN (w : World) (lo : Nat) (B : Option Addr) (xs : List Nd) (m : Nat) : Prop :=
  ∃ (ps : List NC) (b : Option Addr) (k : Nat) (v : Value), xs.length + 1 ≤ m ∧ w.ownsRow lo 45 2 (.slice B (xs.length + 1) m) (xs.length + 1) (enc nf (ps ++ [(.slice b 1 k, v)])) ∧ Deeps w lo ps xs
theorem LentN.below {w w' : World} {lo : Nat} {B : Option Addr} {xs : List Nd} {m : Nat} (h : LentN w lo B xs m) (hb : Below w.heap.size w w') : LentN w' lo B xs m := by
  obtain ⟨ps, b, k, v, h0, h1, h2⟩ := h
  exact ⟨ps, b, k, v, h0, own_below h1 hb, h2.below hb⟩
set_option maxRecDepth 100000 in
set_option maxHeartbeats 4000000 in
theorem lentN_any (A : Option Addr) (xs : List Nd) (c : Nat) (w : World) (hA : Nodes w A xs) (hl : xs.length ≤ 100000) (hx : ∀ x ∈ xs, x.slots.length ≤ 100000 ∧ x.words.length ≤ 100000) :
    Calls Tryz.prog 24 #[.slice A xs.length c] w fun e w' => ∃ B m, e = .returned (.slice B xs.length m) ∧ LentN w' w.heap.size B xs m ∧ Below w.heap.size w w' := by
  obtain ⟨i0, hi0, hz0, hz1, hz2⟩ := info_parts1 nodeInfo
  go_enter Tryz.func24, Tryz.ntmps24
  go_wp2_with fail
  refine (copy_any A xs c w hA hl hx).mono ?_
  rintro e w1 ⟨B, m, ps, rfl, hown, hd, hb⟩
  have hz := hb.size
  have HD := Lib.hid hd
  clear hd
  go_wp2_with (first
    | (at_builtin
       go_loud (refine wpList_append_any _ rfl (.tmp 4) (.tmp 7) _ rfl w.heap.size 45 i0 _ 2 48 Tryz.underlying23 hi0 hz0 hz1 hz2 rfl (by omega) _ xs.length (enc nf ps) rfl ((hown.alloc _).alloc _) (some ⟨w1.heap.size + 1, 0, none⟩) 1 1 [.slice (some ⟨w1.heap.size, 0, none⟩) 1 1, .slice none 0 0] rfl (by have h := Reads.new (w1.alloc (.cells #[.int .i64 (-77)] 3)) (size := 2) (n := 1) (cs := #[.slice (some ⟨w1.heap.size, 0, none⟩) 1 1, .slice none 0 0]) 45 rfl; rw [World.size_alloc] at h; exact h) (by intro u hu; simp at hu; rcases hu with rfl | rfl <;> rfl) (fun e => by cases e) (by simp only [maxLen]; omega) (by omega) (by simp; omega) ?_)
       intro v2 w2 hown2 hg2 hat2
       obtain ⟨B2, m2, rfl, hm2⟩ := own_form hown2
       have hm3 : xs.length ≤ m2 := by omega))
  go_ret
  have hb2 : Below w.heap.size w w2 := by
    refine (hb.trans (((Below.refl _ _).alloc hz _).alloc (by simp; omega) _)).grown hg2 (by simp; omega) ?_
    intro k hk
    exact (own_block hown k hk).1
  refine ⟨B2, m2, rfl, ⟨ps, _, _, _, by omega, by rw [enc_append]; exact hown2, ?_⟩, hb2⟩
  have h1 := (HD.out.below (below_new w1 (.cells #[.int .i64 (-77)] 3))).below (below_new _ (.cells #[.slice (some ⟨w1.heap.size, 0, none⟩) 1 1, .slice none 0 0] 45))
  refine h1.mod (Mod.of_grown hg2) (fun b hS => .inr ?_)
  exact NotInt.of_own ((hown.alloc _).alloc _) (by decide) hS.symm

theorem staysN_any (A B : Option Addr) (xs : List Nd) (c m lo : Nat) (w : World) (hA : Nodes w A xs) (hm : LentN w lo B xs m) (hn : xs.length ≤ 100000) (hx : ∀ x ∈ xs, x.slots.length ≤ 100000 ∧ x.words.length ≤ 100000) :
    Calls Tryz.prog 44 #[.slice B xs.length m, .slice A xs.length c] w fun e w' => e = .returned (.bool true) ∧ Below w.heap.size w w' := by
  obtain ⟨ps, b, k, v, hc, ho, hd⟩ := hm
  have hpl : ps.length = xs.length := hd.1
  have hR : Arr w nf 2 B (ps ++ [(.slice b 1 k, v)]) := by
    have h := Reads.of_own ho
    show Reads w 2 B (ps ++ [((Value.slice b 1 k, v) : NC)]).length _
    simp only [List.length_append, List.length_singleton, hpl]
    exact h
  have HS := Lib.hid (same_yes B A xs m c w (nodes_of (arr_pre nf_len hR) hd hn) hA hn hx)
  have HC := Lib.hid hR
  have HPL := Lib.hid hpl
  clear hR ho hd hA hx hpl
  have p1 : (0 : Int) ≤ (xs.length : Int) + 1 := by omega
  have p2 : (xs.length : Int) + 1 ≤ m := by omega
  go_enter Tryz.func44, Tryz.ntmps44
  go_wp2_with fail
  refine (HS.out).mono ?_
  rintro e w1 ⟨rfl, hb⟩
  obtain ⟨bd, rfl, hc0⟩ := Arr.at_ (Arr.below HC.out hb) nf_len xs.length (by simp [HPL.out]) (by omega)
  have c0 := hc0 0 (Value.slice b 1 k) (by rw [List.getElem_append_right (by rw [HPL.out]; exact Nat.le_refl _)]; simp [nf])
  clear hc0
  simp only [Nat.add_zero] at c0
  go_wp2_with fail
  go_ret
  exact ⟨rfl, hb⟩
end Go.Proofs.YtbelbhdhcgpcpaaGreatDoor.BkNodes
