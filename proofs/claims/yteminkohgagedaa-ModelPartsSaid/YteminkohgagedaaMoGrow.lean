/- slices.Grow of nil; slices.Concat of two lists. -/
import Derived.Test.YteminkohgagedaaMoTop
import Derived.Lib.AppendZerosOnto
import Derived.LoopN
namespace Go.Proofs.Yteminkohgagedaa.Mo
open Go.RowKit Go.Proofs.Yteminkohgagedaa.Base Go.Proofs.Yteminkohgagedaa.Gr Go.Proofs.Yteminkohgagedaa.Ver
set_option linter.unusedVariables false
set_option linter.unusedSimpArgs false

set_option maxRecDepth 100000 in
set_option maxHeartbeats 2000000 in
theorem grow_nil (n : Nat) (h0 : 0 < n) (hn : n ≤ 1000) (w : World) : Calls Try.prog 57 #[.slice none 0 0, .int .i64 (n : Int)] w fun e w' => ∃ cap, e = .returned (.slice (some ⟨w.heap.size, 0, none⟩) 0 cap) ∧ w'.ownsRow w.heap.size 3 1 (.slice (some ⟨w.heap.size, 0, none⟩) 0 cap) 0 [] ∧ Below w.heap.size w w' := by
  obtain ⟨i0, hi0, hz0, hz1, hz2⟩ := info_parts1 intInfo
  have hfit : Builtin.nextslicecap (0 + n) 0 * i0.bytes ≤ 281474976710656 := by
    rw [hz2]
    have : Builtin.nextslicecap (0 + n) 0 = 0 + n := by
      unfold Builtin.nextslicecap
      simp
      omega
    omega
  have hr := fun ty => Lib.run_append_grow_zeros (P := Try.prog) w 22 3 ty 3 i0 (.int .i64 0) .i64 .i64 Try.underlying22 Try.underlying3 hi0 hz0 none 0 0 [] (run_firstCells_none _ _ _ _ _) n h0 (by omega) (by omega) (by omega) (by rw [hz2]; omega) hfit
  have hp : (0 : Int) < n := by omega
  have hH := Lib.hid hr
  clear hfit hr
  go_enter Try.func57, Try.ntmps57
  go_wp2_with (first | (at_builtin; refine Lib.wpList_append_run _ rfl _ _ _ _ rfl _ _ rfl rfl _ _ (hH.out _) ?_))
  go_ret
  have hge := grownCap_ge w n 0 3
  have hle := grownCap_le_maxLen w n 0 3 (by simp only [maxLen]; omega)
  have hz : (Builtin.zeroCells #[Value.int IntKind.i64 0] n ++ Builtin.zeroCells #[Value.int IntKind.i64 0] (grownCap w n 0 3 - n)).size = grownCap w n 0 3 * 1 := by
    rw [Array.size_append, size_zeroCells, size_zeroCells]
    simp
    omega
  refine ⟨grownCap w n 0 3, rfl, ?_, below_drewN (below_1 _ _) 1⟩
  exact World.ownsRow_made (e := 3) (size := 1) w _ _ (Nat.le_refl _) hle hz

/-- slices.Concat of two lists, not both empty. -/
def Pair (w : World) (p : Nat) (A : Option Addr) (a c : Nat) (B : Option Addr) (b d : Nat) : Prop := Blk w p 22 #[.slice A a c, .slice B b d]
set_option maxRecDepth 100000 in
set_option maxHeartbeats 4000000 in
theorem concat_any (A B : Option Addr) (l m : List Int) (c d : Nat) (p : Nat) (w : World) (hl : Ints w A l) (hm : Ints w B m) (h0 : 0 < l.length) (h1 : l.length ≤ 400) (h2 : m.length ≤ 400) (hp : Pair w p A l.length c B m.length d) :
    Calls Try.prog 46 #[.slice (some ⟨p, 0, none⟩) 2 2] w fun e w' => ∃ v, e = .returned v ∧ w'.ownsRow w.heap.size 3 1 v (l ++ m).length (enc ic (l ++ m)) ∧ Below w.heap.size w w' := by
  obtain ⟨i0, hi0, hz0, hz1, hz2⟩ := info_parts1 intInfo
  have c0 := hp.cell 0
  have c1 := hp.cell 1
  have zp := hp.lt
  simp only [List.getElem?_toArray, List.getElem?_cons_zero, List.getElem?_cons_succ] at c0 c1
  have HL := Lib.hid hl
  have HM := Lib.hid hm
  have HP := Lib.hid hp
  have KG := Lib.hid (grow_nil (l.length + m.length) (by omega) (by omega) w)
  have hcast : ((l.length + m.length : Nat) : Int) = (l.length : Int) + m.length := by omega
  rw [hcast] at KG
  clear hl hm hp hcast
  go_enter Try.func46, Try.ntmps46
  go_wp2_with fail
  refine wp_loop_rounds 3 ?_
  repeat any_goals (rw [rounds_succ]; go_wp2_with fail)
  refine KG.out.mono ?_
  rintro e w1 ⟨cap, rfl, hown, hb⟩
  have HO := Lib.hid hown
  have HB := Lib.hid hb
  have e0 := (hb.cell (p := ⟨p, 0, none⟩) zp).trans c0
  have e1 := (hb.cell (p := ⟨p, 1, none⟩) zp).trans c1
  have hz1' := hb.size
  clear hown hb KG
  go_wp2_with fail
  refine wp_loop_rounds 3 ?_
  rw [rounds_succ]
  go_wp2_with (first
    | (at_builtin
       refine wpList_append_any _ rfl (.tmp 31) (.tmp 32) _ rfl w.heap.size 3 i0 _ 1 8 Try.underlying22 hi0 hz0 hz1 hz2 rfl (by omega) (.slice (some ⟨w.heap.size, 0, none⟩) 0 cap) 0 [] rfl HO.out A l.length c (enc ic l) rfl (HL.out.below HB.out).1 (ic_one l) (fun e => Arr.len (HL.out).1 ic_len (by omega) e) (by simp only [maxLen]; omega) (by omega) hz1' ?_
       intro v2 w2 hown2 hg2 hat2
       obtain ⟨A2, c2, rfl, hc2⟩ := own_form hown2
       have HO2 := Lib.hid hown2
       have HB2 := Lib.hid (Below.grown HB.out hg2 hz1' (fun b hb => by have := own_block HO.out b hb; exact this.1))
       have f1 := (HB2.out.cell (p := ⟨p, 1, none⟩) zp).trans c1
       have hz2' := HB2.out.size
       clear hown2 hg2 hat2))
  rw [rounds_succ]
  go_wp2_with (first
    | (at_builtin
       refine wpList_append_any _ rfl (.tmp 31) (.tmp 32) _ rfl w.heap.size 3 i0 _ 1 8 Try.underlying22 hi0 hz0 hz1 hz2 rfl (by omega) (.slice A2 (0 + l.length) c2) (0 + l.length) ([] ++ enc ic l) (by simp [Act.eval]) HO2.out B m.length d (enc ic m) rfl (HM.out.below HB2.out).1 (ic_one m) (fun e => Arr.len (HM.out).1 ic_len (by omega) e) (by simp only [maxLen]; omega) (by omega) hz2' ?_
       intro v3 w3 hown3 hg3 hat3
       obtain ⟨A3, c3, rfl, hc3⟩ := own_form hown3
       have HO3 := Lib.hid hown3
       have HB3 := Lib.hid (Below.grown HB2.out hg3 hz2' (fun b hb => by have := own_block HO2.out b hb; exact this.1))
       clear hown3 hg3 hat3))
  rw [rounds_succ]
  go_wp2_with fail
  go_ret
  refine ⟨_, rfl, ?_, HB3.out⟩
  have h := HO3.out
  rw [List.nil_append, ← enc_append] at h
  simpa using h

end Go.Proofs.Yteminkohgagedaa.Mo
