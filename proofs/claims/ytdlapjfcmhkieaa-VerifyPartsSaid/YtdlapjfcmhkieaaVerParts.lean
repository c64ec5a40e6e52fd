/- The statement VerifyParts's own function: of every program and every number it answers true. -/
import Derived.Test.YtdlapjfcmhkieaaVerLaws
namespace Go.Proofs.Ytdlapjfcmhkieaa.Ver
open Go.RowKit Go.Proofs.Ytdlapjfcmhkieaa.Base
set_option linter.unusedVariables false
set_option linter.unusedSimpArgs false

def halts (n : Nat) : List Ins := List.replicate n ⟨0, 0, 0, 0⟩
theorem chk_more {l : List Ins} (h : (chk l).2 = 0) (n : Nat) (hn : l.length ≤ 100) (hm : n ≤ 100) : chk (l ++ halts n) = (((l ++ halts n).length : Int), 0) := by
  obtain ⟨h1, h2, h3, h4⟩ := chk_ok h
  have hlen : (l ++ halts n).length = l.length + n := by simp [halts]
  refine chk_good (by omega) (fun j hj => ?_)
  have hx : (l ++ halts n)[j] ∈ l ++ halts n := List.getElem_mem hj
  rw [List.mem_append] at hx
  rcases hx with hx | hx
  · exact ok_more (h3 _ hx) (by omega)
  · rw [List.eq_of_mem_replicate hx]
    simp only [Ins.ok, one]
    rfl

theorem parts_far (A : Option Addr) (l : List Ins) (c : Nat) (more : Int) (w : World) (h : 100 < l.length ∨ more < 0 ∨ 100 < more) :
    Calls Try.prog 7 #[.slice A l.length c, .int .i64 more] w fun e w' => e = .returned (.bool true) ∧ Below w.heap.size w w' := by
  rcases (by omega : 100 < l.length ∨ (l.length ≤ 100 ∧ more < 0) ∨ (l.length ≤ 100 ∧ 0 ≤ more ∧ 100 < more)) with h | ⟨h, h2⟩ | ⟨h, h1, h2⟩
  · have hl : decide ((l.length : Int) > 100) = true := decide_eq_true (by omega)
    go_enter Try.func7, Try.ntmps7
    go_wp2_with fail
    refine (alive_any _).mono ?_
    rintro e w1 ⟨rfl, hb⟩
    go_wp2_with fail
    go_ret
    exact ⟨rfl, hb⟩
  all_goals
    have hl : decide ((l.length : Int) > 100) = false := decide_eq_false (by omega)
    go_enter Try.func7, Try.ntmps7
    go_wp2_with fail
    refine (alive_any _).mono ?_
    rintro e w1 ⟨rfl, hb⟩
    go_wp2_with fail
    go_ret
    exact ⟨rfl, hb⟩

theorem parts_bad (A : Option Addr) (l : List Ins) (c : Nat) (more : Int) (w : World) (hr : Arr w Ins.cells 4 A l) (h0 : l.length ≤ 100) (h1 : 0 ≤ more) (h2 : more ≤ 100) (hbad : (chk l).2 ≠ 0) :
    Calls Try.prog 7 #[.slice A l.length c, .int .i64 more] w fun e w' => e = .returned (.bool true) ∧ Below w.heap.size w w' := by
  have hl : decide ((l.length : Int) > 100) = false := decide_eq_false (by omega)
  have hrange := chk_range l
  obtain ⟨q, hq⟩ : ∃ q, chk l = q := ⟨_, rfl⟩
  rw [hq] at hrange hbad
  have HQ := Lib.hid hq
  obtain ⟨q1, q2⟩ := q
  have hr1 : 0 ≤ q1 := hrange.1
  have hr2 : q1 ≤ l.length := hrange.2
  have hb2 : (q2 != 0) = true := bne_iff_ne.mpr hbad
  have hR := Lib.hid hr
  clear hrange hbad hq hr
  go_enter Try.func7, Try.ntmps7
  go_wp2_with fail
  refine (alive_any _).mono ?_
  rintro e w1 ⟨rfl, hb⟩
  go_wp2_with fail
  have k1 := check_any A l c w1 (hR.out.below hb)
  rw [HQ.out] at k1
  refine k1.mono ?_
  rintro e w2 ⟨rfl, hb2'⟩
  clear k1
  go_wp2_with fail
  go_ret
  exact ⟨rfl, below_then hb hb2'⟩

set_option maxHeartbeats 2000000 in
theorem parts_good (A : Option Addr) (l : List Ins) (c : Nat) (more : Nat) (w : World) (hr : Arr w Ins.cells 4 A l) (h0 : l.length ≤ 100) (h2 : more ≤ 100) (hgood : (chk l).2 = 0) :
    Calls Try.prog 7 #[.slice A l.length c, .int .i64 more] w fun e w' => e = .returned (.bool true) ∧ Below w.heap.size w w' := by
  have hl : decide ((l.length : Int) > 100) = false := decide_eq_false (by omega)
  have HQ := Lib.hid (chk_ok hgood).2.2.2
  have HM := Lib.hid (chk_more hgood more h0 h2)
  have hR := Lib.hid hr
  have hk1 : ((l.length : Int) == l.length) = true := by simp
  have hk2 : ((l.length : Int) + more == l.length + more) = true := by simp
  obtain ⟨i0, hi0, hz0, hz1, hz2⟩ := info_parts insInfo
  clear hgood hr
  go_enter Try.func7, Try.ntmps7
  go_wp2_with fail
  refine (alive_any _).mono ?_
  rintro e w1 ⟨rfl, hb1⟩
  go_wp2_with fail
  have k1 := check_any A l c w1 (hR.out.below hb1)
  rw [HQ.out] at k1
  refine k1.mono ?_
  rintro e w2 ⟨rfl, hb2⟩
  clear k1
  have HB2 := Lib.hid (below_then hb1 hb2)
  clear hb1 hb2
  go_wp2_with (first
    | (at_builtin
       refine wpList_append_any _ rfl (.const (.slice none 0 0)) (.tmp 42) _ rfl w2.heap.size 39 i0 _ 4 32 Try.underlying31 hi0 hz0 hz1 hz2 rfl (by omega) (.slice none 0 0) 0 [] rfl
         (own_nil _ _ _ _) A l.length c (enc Ins.cells l) rfl (hR.out.below HB2.out) (ins_oneCell l) (fun e => hR.out.len Ins.cells_len (by omega) e) (by simp only [maxLen]; omega) (by omega) (Nat.le_refl _) ?_
       intro v3 w3 hown3 hg3 hat3))
  have HB3 : Hid (Below w2.heap.size w2 w3) := (Below.refl _ _).grown hg3 (Nat.le_refl _) (by simp [Value.ownBlock])
  simp only [Nat.zero_add, List.nil_append] at hown3
  have HO3 := Lib.hid hown3
  clear hown3 hg3 hat3
  go_loopw [7, 8] (fun v i wr => ∃ k : Nat, k ≤ more ∧ i = .int .i64 k ∧ Hid (Below w2.heap.size w2 wr) ∧ Hid (wr.ownsRow w2.heap.size 39 4 v (l.length + k) (enc Ins.cells (l ++ halts k)))) (fun _ i _ => more - (intOf i).toNat)
  case atStart => exact ⟨0, Nat.zero_le _, rfl, HB3, by simpa [halts, Hid] using HO3.out⟩
  case round =>
    obtain ⟨k, hk, rfl, HB, HO⟩ := hrel
    by_cases hlt : k < more
    · go_wp2_with (first
        | (at_builtin
           refine wpList_append_any _ rfl (.tmp 49) (.tmp 51) _ rfl w2.heap.size 39 i0 _ 4 32 Try.underlying31 hi0 hz0 hz1 hz2 rfl (by omega) _ (l.length + k) _ rfl
             (HO.out.alloc _) (some ⟨wr.heap.size, 0, none⟩) 1 1 [.int .i64 0, .int .i64 0, .int .i64 0, .int .i64 0] rfl (Reads.new wr _ rfl) (ins_oneCell [⟨0, 0, 0, 0⟩]) (fun e => by cases e) (by simp only [maxLen]; omega) (by omega) (by have := HB.out.size; simp; omega) ?_
           intro v4 w4 hown4 hg4 hat4))
      go_roundw
      case rel =>
        refine ⟨k + 1, by omega, by go_num, ?_, ?_⟩
        · refine (HB.out.trans ((Below.refl _ _).alloc HB.out.size _)).grown hg4 (by have := HB.out.size; simp; omega) ?_
          intro b hb
          exact (own_block HO.out b hb).1
        · show World.ownsRow _ _ _ _ _ _ _
          have e : l ++ halts (k + 1) = (l ++ halts k) ++ [⟨0, 0, 0, 0⟩] := by simp [halts, List.replicate_succ']
          rw [e, enc_append]
          exact hown4
      case measure => simp [intOf]; omega
    · obtain rfl : k = more := by omega
      have hlen : (l ++ halts k).length = l.length + k := by simp [halts]
      obtain ⟨B, m, rfl, hm⟩ := own_form HO.out
      go_wp2_with fail
      have hA : Arr wr Ins.cells 4 B (l ++ halts k) := by
        unfold Arr
        rw [hlen]
        exact Reads.of_own HO.out
      have k2 := check_any B (l ++ halts k) m wr hA
      rw [HM.out, hlen] at k2
      have hcast : ((l.length + k : Nat) : Int) = (l.length : Int) + k := by omega
      rw [hcast] at k2
      refine k2.mono ?_
      rintro e w5 ⟨rfl, hb5⟩
      clear k2
      go_wp2_with fail
      go_ret
      exact ⟨rfl, below_then (below_then HB2.out HB.out) (hb5)⟩

theorem parts_walk (A : Option Addr) (l : List Ins) (c : Nat) (more : Int) (w : World) (hr : Arr w Ins.cells 4 A l) (hc : l.length ≤ c) :
    Calls Try.prog 7 #[.slice A l.length c, .int .i64 more] w fun e w' => e = .returned (.bool true) ∧ Below w.heap.size w w' := by
  by_cases h : 100 < l.length ∨ more < 0 ∨ 100 < more
  · exact parts_far A l c more w h
  · by_cases hg : (chk l).2 = 0
    · obtain ⟨m, rfl⟩ := Int.eq_ofNat_of_zero_le (show 0 ≤ more by omega)
      exact parts_good A l c m w hr (by omega) (by omega) hg
    · exact parts_bad A l c more w hr (by omega) (by omega) (by omega) hg

end Go.Proofs.Ytdlapjfcmhkieaa.Ver
