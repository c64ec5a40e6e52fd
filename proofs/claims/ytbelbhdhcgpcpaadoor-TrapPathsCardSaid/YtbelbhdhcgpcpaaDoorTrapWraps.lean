/- The statement TrapWraps: however often it is wrapped an error is found. -/
import Derived.Test.YtbelbhdhcgpcpaaDoorTrapAlive
namespace Go.Proofs.YtbelbhdhcgpcpaaDoor.Trap
open Go.RowKit Go.Proofs.YtbelbhdhcgpcpaaDoor.Base
set_option linter.unusedVariables false
set_option linter.unusedSimpArgs false

set_option maxRecDepth 100000 in
set_option maxHeartbeats 4000000 in
theorem wraps_good (n at_ : Int) (times : Nat) (s : ByteArray) (w : World) (hg : Door w) (hn : n ≠ 0) (ht : times ≤ 60) (hs : s.size ≤ 60) :
    Calls Tryd.prog 8 #[.int .i64 n, .int .i64 at_, .int .i64 (times : Int), .string s] w fun e w' => e = .returned (.bool true) ∧ Below w.heap.size w w' := by
  have p1 : (n == 0) = false := beq_eq_false_iff_ne.mpr hn
  have p2 : decide ((times : Int) < 0) = false := decide_eq_false (by omega)
  have p3 : decide ((times : Int) > 60) = false := decide_eq_false (by omega)
  have p4 : decide ((s.size : Int) > 60) = false := decide_eq_false (by omega)
  have HG := Lib.hid hg
  have HNN := Lib.hid hn
  clear hg hn
  go_enter Tryd.func8, Tryd.ntmps8
  go_wp2_with (first
    | (go_at_call 22; refine (alive_any _ HG.out).mono ?_; rintro e w1 ⟨rfl, hb1⟩; have HB1 := Lib.hid hb1; clear hb1)
    | (go_at_call 23; refine (new_some n at_ HNN.out _).mono ?_; rintro e w2 ⟨v2, rfl, h2, hb2⟩; have HE2 := Lib.hid h2; have HB2 := Lib.hid (below_then HB1.out hb2); clear h2 hb2))
  clear p1 p2 p3 p4
  go_loopw [9, 10] (fun u i wr => ∃ k : Nat, k ≤ times ∧ i = .int .i64 k ∧ Hid (ErrAt wr n at_ (List.replicate k s) u) ∧ Hid (Below w.heap.size w wr)) (fun _ i _ => times - (intOf i).toNat)
  case atStart => exact ⟨0, Nat.zero_le _, rfl, HE2, HB2⟩
  case round =>
    obtain ⟨k, hk, rfl, HE, HB⟩ := hrel
    by_cases hlt : k < times
    · go_wp2_with (first | (go_at_call 25; refine (in_some s HE.out).mono ?_; rintro e w3 ⟨v3, rfl, h3, hb3⟩; have HE3 := Lib.hid h3; have HB3 := Lib.hid (below_then HB.out hb3); clear h3 hb3))
      go_roundw
      case rel => exact ⟨k + 1, by omega, by go_num, Lib.hid (by rw [List.replicate_succ]; exact HE3.out), HB3⟩
      case measure => simp [intOf]; omega
    · have hkt : k = times := by omega
      subst hkt
      have HD := Lib.hid (HG.out.below HB.out)
      obtain ⟨tv, bv, rfl⟩ := HE.out.iface
      have KP := Lib.hid (path_any wr HD.out HE.out (by rw [List.length_replicate]; omega))
      rw [List.length_replicate] at KP
      go_wp2_with (first
        | (go_at_call 28; refine KP.out.mono ?_; rintro e w4 ⟨A, c, rfl, hO, hb4⟩; have HB4 := Lib.hid hb4; clear hb4 hO)
        | (go_at_call 26; refine (errno_some _ (HD.out.below HB4.out) (HE.out.below HB4.out)).mono ?_; rintro e w5 ⟨rfl, hb5⟩; have HB5 := Lib.hid (below_then HB4.out hb5); clear hb5)
        | (go_at_call 27; refine (at_some _ (HD.out.below HB5.out) (HE.out.below HB5.out)).mono ?_; rintro e w6 ⟨rfl, hb6⟩; have HB6 := Lib.hid (below_then HB5.out hb6); clear hb6)
        | (go_at_call 29; refine (is_ok _ (HE.out.below HB6.out)).mono ?_; rintro e w7 ⟨rfl, rfl⟩)
        | (go_at_call 25; refine (in_none _ _).mono ?_; rintro e w8 ⟨rfl, rfl⟩)
        | (go_at_call 23; refine (new_none _ _).mono ?_; rintro e w9 ⟨rfl, rfl⟩))
      go_ret
      exact ⟨rfl, HB.out.trans (HB6.out.mono HB.out.size)⟩

theorem wraps_walk (n at_ times : Int) (s : ByteArray) (w : World) (hg : Door w) (hs : s.size ≤ 140737488351232) :
    Calls Tryd.prog 8 #[.int .i64 n, .int .i64 at_, .int .i64 times, .string s] w fun e w' => e = .returned (.bool true) ∧ Below w.heap.size w w' := by
  by_cases hc : n ≠ 0 ∧ 0 ≤ times ∧ times ≤ 60 ∧ s.size ≤ 60
  · obtain ⟨h1, h2, h3, h4⟩ := hc
    obtain ⟨m, rfl⟩ : ∃ m : Nat, times = (m : Int) := ⟨times.toNat, by omega⟩
    exact wraps_good n at_ m s w hg h1 (by omega) h4
  · have HG := Lib.hid hg
    generalize hz : s.size = z at hc hs
    rcases (by omega : n = 0 ∨ (n ≠ 0 ∧ times < 0) ∨ (n ≠ 0 ∧ 0 ≤ times ∧ 60 < times) ∨ (n ≠ 0 ∧ 0 ≤ times ∧ times ≤ 60 ∧ 60 < z)) with h1 | ⟨h1, h2⟩ | ⟨h1, h2, h3⟩ | ⟨h1, h2, h3, h4⟩
    · subst h1
      clear hc hg hz hs
      go_enter Tryd.func8, Tryd.ntmps8
      go_wp2_with (first | (go_at_call 22; refine (alive_any _ HG.out).mono ?_; rintro e w1 ⟨rfl, hb1⟩))
      go_ret
      exact ⟨rfl, hb1⟩
    all_goals
      have p1 : (n == 0) = false := beq_eq_false_iff_ne.mpr h1
      clear hc hg h1
      go_enter Tryd.func8, Tryd.ntmps8
      go_wp2_with (first | (go_at_call 22; refine (alive_any _ HG.out).mono ?_; rintro e w1 ⟨rfl, hb1⟩))
      go_ret
      exact ⟨rfl, hb1⟩
end Go.Proofs.YtbelbhdhcgpcpaaDoor.Trap
