-- PRINTED BY print.sh 35421559b90ae4d0a3588c463048766b98c2df88dd9212a6774a882060cdf62d: not written by this session
import Derived.Test.YtdlapjfcmhkieaaPVerifyEdgesx0
import Derived.Test.YtdlapjfcmhkieaaPVerifyEdgesx2
namespace Go.Proofs.Ytdlapjfcmhkieaa.PVerifyEdges
open Go.RowKit Go.Proofs.YtdlapjfcmhkieaaW.PrintWords Go.Proofs.YtdlapjfcmhkieaaW.PrintLast Go.Proofs.YtdlapjfcmhkieaaW.PrintMore
attribute [local go_sem] max2_int min2_int max_two min_two max_three min_three max_four min_four   -- for this text's walks alone
set_option linter.unusedVariables false
set_option linter.unusedSimpArgs false

/-! ### flittinglaw20_VerifyEdges: function 8 -/
mutual
def flittinglaw20_VerifyEdges.j0 : Nat → Int → Int → Bool → Option (Bool)
  | 0, _, _, _ => none
  | k + 1, x0, x1, x24 => if x24 = true then ((flittinglaw20_alive.f k).bind fun t128 => (some t128)) else ((verify_One.f k x0 256 0 0 x1).bind fun t129 => (if t129 = true then (flittinglaw20_VerifyEdges.j1 k x0 x1 true) else ((verify_One.f k x0 0 0 (-1) x1).bind fun t130 => (if t130 = true then (flittinglaw20_VerifyEdges.j1 k x0 x1 true) else ((verify_One.f k x0 4 0 0 x1).bind fun t131 => (flittinglaw20_VerifyEdges.j1 k x0 x1 t131))))))
def flittinglaw20_VerifyEdges.j1 : Nat → Int → Int → Bool → Option (Bool)
  | 0, _, _, _ => none
  | k + 1, x0, x1, x41 => if x41 = true then (some false) else (if x0 = 5 then (flittinglaw20_VerifyEdges.j2 k x0 x1 x0 (x0 == 5) x0 0 (Go.bits .and .i64 (wrap64 (x1 - 1)) 255) ((wrap64 (x1 - 1)) / 256) x0 0 (Go.bits .and .i64 x1 255) (x1 / 256)) else (flittinglaw20_VerifyEdges.j2 k x0 x1 x0 (x0 == 6) x0 0 (Go.bits .and .i64 (wrap64 (x1 - 1)) 255) ((wrap64 (x1 - 1)) / 256) x0 0 (Go.bits .and .i64 x1 255) (x1 / 256)))
def flittinglaw20_VerifyEdges.j2 : Nat → Int → Int → Int → Bool → Int → Int → Int → Int → Int → Int → Int → Int → Option (Bool)
  | 0, _, _, _, _, _, _, _, _, _, _, _, _ => none
  | k + 1, x0, x1, x56, x57, x133000, x133001, x133002, x133003, x134000, x134001, x134002, x134003 => if x57 = true then ((verify_One.f k x133000 x133001 x133002 x133003 x1).bind fun t134 => (if t134 = true then ((verify_One.f k x134000 x134001 x134002 x134003 x1).bind fun t135 => (some (!t135))) else (some false))) else (if x56 = 7 then ((verify_One.f k x0 3 15 30 x1).bind fun t136 => (if t136 = true then ((verify_One.f k x0 0 16 0 x1).bind fun t137 => (if t137 = true then (some false) else ((verify_One.f k x0 0 0 31 x1).bind fun t138 => (some (!t138))))) else (some false))) else (if x56 = 12 then (flittinglaw20_VerifyEdges.j3 k x0 x1 x56 (x56 == 12)) else (flittinglaw20_VerifyEdges.j3 k x0 x1 x56 (x56 == 13))))
def flittinglaw20_VerifyEdges.j3 : Nat → Int → Int → Int → Bool → Option (Bool)
  | 0, _, _, _, _ => none
  | k + 1, x0, x1, x56, x89 => if x89 = true then ((verify_One.f k x0 3 7 0 x1).bind fun t139 => (if t139 = true then ((verify_One.f k x0 0 8 0 x1).bind fun t140 => (if t140 = true then (some false) else ((verify_One.f k x0 0 0 1 x1).bind fun t141 => (some (!t141))))) else (some false))) else (if x56 = 0 then (flittinglaw20_VerifyEdges.j4 k x0 x1 x56 (x56 == 0)) else (if x56 = 14 then (flittinglaw20_VerifyEdges.j4 k x0 x1 x56 (x56 == 14)) else (flittinglaw20_VerifyEdges.j4 k x0 x1 x56 (x56 == 15))))
def flittinglaw20_VerifyEdges.j4 : Nat → Int → Int → Int → Bool → Option (Bool)
  | 0, _, _, _, _ => none
  | k + 1, x0, x1, x56, x110 => if x110 = true then ((verify_One.f k x0 0 0 0 x1).bind fun t142 => (if t142 = true then ((verify_One.f k x0 1 0 0 x1).bind fun t143 => (if t143 = true then (some false) else ((verify_One.f k x0 0 1 0 x1).bind fun t144 => (some (!t144))))) else (some false))) else (if x56 = 1 then ((verify_One.f k x0 3 255 255 x1).bind fun t145 => (some t145)) else (if x56 = 8 then (flittinglaw20_VerifyEdges.j5 k x0 x1 (x56 == 8)) else (if x56 = 9 then (flittinglaw20_VerifyEdges.j5 k x0 x1 (x56 == 9)) else (if x56 = 10 then (flittinglaw20_VerifyEdges.j5 k x0 x1 (x56 == 10)) else (flittinglaw20_VerifyEdges.j5 k x0 x1 (x56 == 11))))))
def flittinglaw20_VerifyEdges.j5 : Nat → Int → Int → Bool → Option (Bool)
  | 0, _, _, _ => none
  | k + 1, x0, x1, x138 => if x138 = true then ((verify_One.f k x0 3 3 255 x1).bind fun t146 => (if t146 = true then ((verify_One.f k x0 0 4 0 x1).bind fun t147 => (some (!t147))) else (some false))) else ((verify_One.f k x0 0 0 0 x1).bind fun t148 => (some t148))
end
def flittinglaw20_VerifyEdges.f (k : Nat) (a0 : Int) (a1 : Int) : Option (Bool) := if a0 < 0 then (flittinglaw20_VerifyEdges.j0 k a0 a1 true) else (if a0 ≥ 23 then (flittinglaw20_VerifyEdges.j0 k a0 a1 true) else (if a1 < 1 then (flittinglaw20_VerifyEdges.j0 k a0 a1 true) else (if a1 > 200 then (flittinglaw20_VerifyEdges.j0 k a0 a1 true) else ((flittinglaw20_alive.f k).bind fun t127 => (flittinglaw20_VerifyEdges.j0 k a0 a1 (!t127))))))
theorem flittinglaw20_VerifyEdges.mono_l : ∀ k, (∀ y0 y1 y2, LeO (flittinglaw20_VerifyEdges.j0 k y0 y1 y2) (flittinglaw20_VerifyEdges.j0 (k + 1) y0 y1 y2)) ∧ (∀ y0 y1 y2, LeO (flittinglaw20_VerifyEdges.j1 k y0 y1 y2) (flittinglaw20_VerifyEdges.j1 (k + 1) y0 y1 y2)) ∧ (∀ y0 y1 y2 y3 y4 y5 y6 y7 y8 y9 y10 y11, LeO (flittinglaw20_VerifyEdges.j2 k y0 y1 y2 y3 y4 y5 y6 y7 y8 y9 y10 y11) (flittinglaw20_VerifyEdges.j2 (k + 1) y0 y1 y2 y3 y4 y5 y6 y7 y8 y9 y10 y11)) ∧ (∀ y0 y1 y2 y3, LeO (flittinglaw20_VerifyEdges.j3 k y0 y1 y2 y3) (flittinglaw20_VerifyEdges.j3 (k + 1) y0 y1 y2 y3)) ∧ (∀ y0 y1 y2 y3, LeO (flittinglaw20_VerifyEdges.j4 k y0 y1 y2 y3) (flittinglaw20_VerifyEdges.j4 (k + 1) y0 y1 y2 y3)) ∧ (∀ y0 y1 y2, LeO (flittinglaw20_VerifyEdges.j5 k y0 y1 y2) (flittinglaw20_VerifyEdges.j5 (k + 1) y0 y1 y2))
  | 0 => ⟨fun _ _ _ r h => by simp [flittinglaw20_VerifyEdges.j0] at h, fun _ _ _ r h => by simp [flittinglaw20_VerifyEdges.j1] at h, fun _ _ _ _ _ _ _ _ _ _ _ _ r h => by simp [flittinglaw20_VerifyEdges.j2] at h, fun _ _ _ _ r h => by simp [flittinglaw20_VerifyEdges.j3] at h, fun _ _ _ _ r h => by simp [flittinglaw20_VerifyEdges.j4] at h, fun _ _ _ r h => by simp [flittinglaw20_VerifyEdges.j5] at h⟩
  | k + 1 => by
    obtain ⟨ih0, ih1, ih2, ih3, ih4, ih5⟩ := flittinglaw20_VerifyEdges.mono_l k
    refine ⟨?_, ?_, ?_, ?_, ?_, ?_⟩
    · intro y0 y1 y2
      unfold flittinglaw20_VerifyEdges.j0
      repeat' first
      | (with_reducible exact ih0 _ _ _)
      | (with_reducible exact ih1 _ _ _)
      | (with_reducible exact ih2 _ _ _ _ _ _ _ _ _ _ _ _)
      | (with_reducible exact ih3 _ _ _ _)
      | (with_reducible exact ih4 _ _ _ _)
      | (with_reducible exact ih5 _ _ _)
      | (with_reducible exact flittinglaw20_alive.mono _)
      | (with_reducible exact verify_One.mono _ _ _ _ _ _)
      | (with_reducible exact LeO.refl _)
      | (with_reducible exact LeO.none _)
      | (with_reducible refine LeO.ite ?_ ?_)
      | (with_reducible refine LeO.bind ?_ (fun _ => ?_))
      | exact ih0 _ _ _
      | exact ih1 _ _ _
      | exact ih2 _ _ _ _ _ _ _ _ _ _ _ _
      | exact ih3 _ _ _ _
      | exact ih4 _ _ _ _
      | exact ih5 _ _ _
      | exact flittinglaw20_alive.mono _
      | exact verify_One.mono _ _ _ _ _ _
      | exact LeO.none _
      | refine LeO.ite ?_ ?_
      | refine LeO.bind ?_ (fun _ => ?_)
    · intro y0 y1 y2
      unfold flittinglaw20_VerifyEdges.j1
      repeat' first
      | (with_reducible exact ih0 _ _ _)
      | (with_reducible exact ih1 _ _ _)
      | (with_reducible exact ih2 _ _ _ _ _ _ _ _ _ _ _ _)
      | (with_reducible exact ih3 _ _ _ _)
      | (with_reducible exact ih4 _ _ _ _)
      | (with_reducible exact ih5 _ _ _)
      | (with_reducible exact flittinglaw20_alive.mono _)
      | (with_reducible exact verify_One.mono _ _ _ _ _ _)
      | (with_reducible exact LeO.refl _)
      | (with_reducible exact LeO.none _)
      | (with_reducible refine LeO.ite ?_ ?_)
      | (with_reducible refine LeO.bind ?_ (fun _ => ?_))
      | exact ih0 _ _ _
      | exact ih1 _ _ _
      | exact ih2 _ _ _ _ _ _ _ _ _ _ _ _
      | exact ih3 _ _ _ _
      | exact ih4 _ _ _ _
      | exact ih5 _ _ _
      | exact flittinglaw20_alive.mono _
      | exact verify_One.mono _ _ _ _ _ _
      | exact LeO.none _
      | refine LeO.ite ?_ ?_
      | refine LeO.bind ?_ (fun _ => ?_)
    · intro y0 y1 y2 y3 y4 y5 y6 y7 y8 y9 y10 y11
      unfold flittinglaw20_VerifyEdges.j2
      repeat' first
      | (with_reducible exact ih0 _ _ _)
      | (with_reducible exact ih1 _ _ _)
      | (with_reducible exact ih2 _ _ _ _ _ _ _ _ _ _ _ _)
      | (with_reducible exact ih3 _ _ _ _)
      | (with_reducible exact ih4 _ _ _ _)
      | (with_reducible exact ih5 _ _ _)
      | (with_reducible exact flittinglaw20_alive.mono _)
      | (with_reducible exact verify_One.mono _ _ _ _ _ _)
      | (with_reducible exact LeO.refl _)
      | (with_reducible exact LeO.none _)
      | (with_reducible refine LeO.ite ?_ ?_)
      | (with_reducible refine LeO.bind ?_ (fun _ => ?_))
      | exact ih0 _ _ _
      | exact ih1 _ _ _
      | exact ih2 _ _ _ _ _ _ _ _ _ _ _ _
      | exact ih3 _ _ _ _
      | exact ih4 _ _ _ _
      | exact ih5 _ _ _
      | exact flittinglaw20_alive.mono _
      | exact verify_One.mono _ _ _ _ _ _
      | exact LeO.none _
      | refine LeO.ite ?_ ?_
      | refine LeO.bind ?_ (fun _ => ?_)
    · intro y0 y1 y2 y3
      unfold flittinglaw20_VerifyEdges.j3
      repeat' first
      | (with_reducible exact ih0 _ _ _)
      | (with_reducible exact ih1 _ _ _)
      | (with_reducible exact ih2 _ _ _ _ _ _ _ _ _ _ _ _)
      | (with_reducible exact ih3 _ _ _ _)
      | (with_reducible exact ih4 _ _ _ _)
      | (with_reducible exact ih5 _ _ _)
      | (with_reducible exact flittinglaw20_alive.mono _)
      | (with_reducible exact verify_One.mono _ _ _ _ _ _)
      | (with_reducible exact LeO.refl _)
      | (with_reducible exact LeO.none _)
      | (with_reducible refine LeO.ite ?_ ?_)
      | (with_reducible refine LeO.bind ?_ (fun _ => ?_))
      | exact ih0 _ _ _
      | exact ih1 _ _ _
      | exact ih2 _ _ _ _ _ _ _ _ _ _ _ _
      | exact ih3 _ _ _ _
      | exact ih4 _ _ _ _
      | exact ih5 _ _ _
      | exact flittinglaw20_alive.mono _
      | exact verify_One.mono _ _ _ _ _ _
      | exact LeO.none _
      | refine LeO.ite ?_ ?_
      | refine LeO.bind ?_ (fun _ => ?_)
    · intro y0 y1 y2 y3
      unfold flittinglaw20_VerifyEdges.j4
      repeat' first
      | (with_reducible exact ih0 _ _ _)
      | (with_reducible exact ih1 _ _ _)
      | (with_reducible exact ih2 _ _ _ _ _ _ _ _ _ _ _ _)
      | (with_reducible exact ih3 _ _ _ _)
      | (with_reducible exact ih4 _ _ _ _)
      | (with_reducible exact ih5 _ _ _)
      | (with_reducible exact flittinglaw20_alive.mono _)
      | (with_reducible exact verify_One.mono _ _ _ _ _ _)
      | (with_reducible exact LeO.refl _)
      | (with_reducible exact LeO.none _)
      | (with_reducible refine LeO.ite ?_ ?_)
      | (with_reducible refine LeO.bind ?_ (fun _ => ?_))
      | exact ih0 _ _ _
      | exact ih1 _ _ _
      | exact ih2 _ _ _ _ _ _ _ _ _ _ _ _
      | exact ih3 _ _ _ _
      | exact ih4 _ _ _ _
      | exact ih5 _ _ _
      | exact flittinglaw20_alive.mono _
      | exact verify_One.mono _ _ _ _ _ _
      | exact LeO.none _
      | refine LeO.ite ?_ ?_
      | refine LeO.bind ?_ (fun _ => ?_)
    · intro y0 y1 y2
      unfold flittinglaw20_VerifyEdges.j5
      repeat' first
      | (with_reducible exact ih0 _ _ _)
      | (with_reducible exact ih1 _ _ _)
      | (with_reducible exact ih2 _ _ _ _ _ _ _ _ _ _ _ _)
      | (with_reducible exact ih3 _ _ _ _)
      | (with_reducible exact ih4 _ _ _ _)
      | (with_reducible exact ih5 _ _ _)
      | (with_reducible exact flittinglaw20_alive.mono _)
      | (with_reducible exact verify_One.mono _ _ _ _ _ _)
      | (with_reducible exact LeO.refl _)
      | (with_reducible exact LeO.none _)
      | (with_reducible refine LeO.ite ?_ ?_)
      | (with_reducible refine LeO.bind ?_ (fun _ => ?_))
      | exact ih0 _ _ _
      | exact ih1 _ _ _
      | exact ih2 _ _ _ _ _ _ _ _ _ _ _ _
      | exact ih3 _ _ _ _
      | exact ih4 _ _ _ _
      | exact ih5 _ _ _
      | exact flittinglaw20_alive.mono _
      | exact verify_One.mono _ _ _ _ _ _
      | exact LeO.none _
      | refine LeO.ite ?_ ?_
      | refine LeO.bind ?_ (fun _ => ?_)
theorem flittinglaw20_VerifyEdges.mono : ∀ a0 a1 k, LeO (flittinglaw20_VerifyEdges.f k a0 a1) (flittinglaw20_VerifyEdges.f (k + 1) a0 a1) := by
  intro a0 a1 k
  obtain ⟨ih0, ih1, ih2, ih3, ih4, ih5⟩ := flittinglaw20_VerifyEdges.mono_l k
  unfold flittinglaw20_VerifyEdges.f
  repeat' first
      | (with_reducible exact ih0 _ _ _)
      | (with_reducible exact ih1 _ _ _)
      | (with_reducible exact ih2 _ _ _ _ _ _ _ _ _ _ _ _)
      | (with_reducible exact ih3 _ _ _ _)
      | (with_reducible exact ih4 _ _ _ _)
      | (with_reducible exact ih5 _ _ _)
      | (with_reducible exact flittinglaw20_alive.mono _)
      | (with_reducible exact verify_One.mono _ _ _ _ _ _)
      | (with_reducible exact LeO.refl _)
      | (with_reducible exact LeO.none _)
      | (with_reducible refine LeO.ite ?_ ?_)
      | (with_reducible refine LeO.bind ?_ (fun _ => ?_))
      | exact ih0 _ _ _
      | exact ih1 _ _ _
      | exact ih2 _ _ _ _ _ _ _ _ _ _ _ _
      | exact ih3 _ _ _ _
      | exact ih4 _ _ _ _
      | exact ih5 _ _ _
      | exact flittinglaw20_alive.mono _
      | exact verify_One.mono _ _ _ _ _ _
      | exact LeO.none _
      | refine LeO.ite ?_ ?_
      | refine LeO.bind ?_ (fun _ => ?_)
set_option maxHeartbeats 8000000 in
set_option maxRecDepth 100000 in
theorem flittinglaw20_VerifyEdges.calls (k : Nat) (a0 : Int) (a1 : Int) (r : Bool) (w : World) (h : flittinglaw20_VerifyEdges.f k a0 a1 = some r) :
    Calls Try.prog 8 #[.int .i64 a0, .int .i64 a1] w fun e w' => e = .returned (.bool r) ∧ Below w.heap.size w w' := by
  have hu39 := Try.underlying39
  have HB := Aside0.mk (Below.refl w.heap.size w)
  have H : (if a0 < 0 then (flittinglaw20_VerifyEdges.j0 k a0 a1 true) else (if a0 ≥ 23 then (flittinglaw20_VerifyEdges.j0 k a0 a1 true) else (if a1 < 1 then (flittinglaw20_VerifyEdges.j0 k a0 a1 true) else (if a1 > 200 then (flittinglaw20_VerifyEdges.j0 k a0 a1 true) else ((flittinglaw20_alive.f k).bind fun t127 => (flittinglaw20_VerifyEdges.j0 k a0 a1 (!t127))))))) = some r := h
  clear h
  have HC3 := Aside0.mk H
  clear H
  go_enter Try.func8, Try.ntmps8
  go_upto_region 1 with (fail)
  go_cut [24] (fun v24 wc => ∃ (kq : Nat) (x24_2 : Bool), v24 = .bool x24_2 ∧ Aside0 (flittinglaw20_VerifyEdges.j0 kq a0 a1 x24_2 = some r) ∧ Aside0 (kq ≤ k) ∧ Aside0 (Below w.heap.size w wc))
  case first =>
    have H := HC3.out
    clear HC3
    by_cases c4 : a0 < 0
    · rw [if_pos c4] at H
      have c4b0 : decide (a0 < 0) = true := decide_eq_true c4
      clear c4
      (first | rw [c4b0] | (simp only [i64_w, i32_w]; rw [c4b0]) | skip)
      have H' := Aside0.mk H
      clear H
      go_wp2
      go_meet
      case rel => exact ⟨_, (true), (by first | rfl | (simp; done) | (simp [*]; done)), H', ⟨by first | omega | exact Nat.le_refl _⟩, ⟨by repeat (first | (with_reducible first | exact HB.out | apply below_alloc | apply pw_below_drewN | apply below_drew1) | exact HB.out)⟩⟩
    · rw [if_neg c4] at H
      have c4b0 : decide (a0 < 0) = false := decide_eq_false c4
      clear c4
      (first | rw [c4b0] | (simp only [i64_w, i32_w]; rw [c4b0]) | skip)
      by_cases c5 : a0 ≥ 23
      · rw [if_pos c5] at H
        have c5b0 : decide (23 ≤ a0) = true := decide_eq_true c5
        clear c5
        have H' := Aside0.mk H
        clear H
        go_wp2
        go_meet
        case rel => exact ⟨_, (true), (by first | rfl | (simp; done) | (simp [*]; done)), H', ⟨by first | omega | exact Nat.le_refl _⟩, ⟨by repeat (first | (with_reducible first | exact HB.out | apply below_alloc | apply pw_below_drewN | apply below_drew1) | exact HB.out)⟩⟩
      · rw [if_neg c5] at H
        have c5b0 : decide (23 ≤ a0) = false := decide_eq_false c5
        clear c5
        by_cases c6 : a1 < 1
        · rw [if_pos c6] at H
          have c6b0 : decide (a1 < 1) = true := decide_eq_true c6
          clear c6
          have H' := Aside0.mk H
          clear H
          go_wp2
          go_meet
          case rel => exact ⟨_, (true), (by first | rfl | (simp; done) | (simp [*]; done)), H', ⟨by first | omega | exact Nat.le_refl _⟩, ⟨by repeat (first | (with_reducible first | exact HB.out | apply below_alloc | apply pw_below_drewN | apply below_drew1) | exact HB.out)⟩⟩
        · rw [if_neg c6] at H
          have c6b0 : decide (a1 < 1) = false := decide_eq_false c6
          clear c6
          by_cases c7 : a1 > 200
          · rw [if_pos c7] at H
            have c7b0 : decide (200 < a1) = true := decide_eq_true c7
            clear c7
            have H' := Aside0.mk H
            clear H
            go_wp2
            go_meet
            case rel => exact ⟨_, (true), (by first | rfl | (simp; done) | (simp [*]; done)), H', ⟨by first | omega | exact Nat.le_refl _⟩, ⟨by repeat (first | (with_reducible first | exact HB.out | apply below_alloc | apply pw_below_drewN | apply below_drew1) | exact HB.out)⟩⟩
          · rw [if_neg c7] at H
            have c7b0 : decide (200 < a1) = false := decide_eq_false c7
            clear c7
            replace H := Option.bind_eq_some_iff.mp H
            obtain ⟨t127, A80, H⟩ := H
            replace H : (flittinglaw20_VerifyEdges.j0 k a0 a1 (!t127)) = some r := H
            have A8 := Aside0.mk A80
            clear A80
            have H' := Aside0.mk H
            clear H
            go_wp2_with (first | (go_at_call 18; (with_reducible refine (flittinglaw20_alive.calls k  t127 _ A8.out).mono ?_); rintro e w9 ⟨rfl, hb⟩; have n0_ := Aside0.mk (below_step (by repeat (first | (with_reducible first | exact HB.out | apply below_alloc | apply pw_below_drewN | apply below_drew1) | exact HB.out)) hb); clear HB; have HB := n0_; clear n0_; (try clear hb); (try clear hb2); (try clear hk); (try clear hi)))
            go_meet
            case rel => exact ⟨_, (!t127), (by first | rfl | (simp; done) | (simp [*]; done)), H', ⟨by first | omega | exact Nat.le_refl _⟩, ⟨by repeat (first | (with_reducible first | exact HB.out | apply below_alloc | apply pw_below_drewN | apply below_drew1) | exact HB.out)⟩⟩
  case rest =>
    clear HC3
    try clear p2
    try clear c4
    try clear c4b0
    try clear c5
    try clear c5b0
    try clear c6
    try clear c6b0
    try clear c7
    try clear c7b0
    try clear c8
    obtain ⟨kq, x24_2, rfl, HA, HJ2, HB⟩ := hcut
    cases kq with
    | zero => exact absurd HA.out (by simp [flittinglaw20_VerifyEdges.j0])
    | succ kj2 =>
      have H := HA.out
      clear HA
      simp only [flittinglaw20_VerifyEdges.j0] at H
      by_cases c10 : x24_2 = true
      · subst c10
        have H1 : ((flittinglaw20_alive.f kj2).bind fun t128 => (some t128)) = some r := by rw [if_pos rfl] at H; exact H
        clear H
        have H := H1
        clear H1
        replace H := Option.bind_eq_some_iff.mp H
        obtain ⟨t128, A110, H⟩ := H
        replace H : (some t128) = some r := H
        have A11 := Aside0.mk A110
        clear A110
        obtain rfl := Option.some.inj H
        go_wp2_with (first | ((with_reducible refine gate_callee (f := 18) rfl ?_); refine goesL_ (some 25) rfl rfl Try.func18 (by kernel_rfl) rfl #[] rfl (by (try simp only [List.map_toArray, List.map_cons, List.map_nil]); first | done | rfl | (simp only [List.length_drop, List.length_take]; rfl)) ?_; (with_reducible refine (flittinglaw20_alive.calls kj2  t128 _ A11.out).mono ?_); rintro e w12 ⟨rfl, hb⟩; refine ⟨_, rfl, ?_⟩; have n0_ := Aside0.mk (below_step (by repeat (first | (with_reducible first | exact HB.out | apply below_alloc | apply pw_below_drewN | apply below_drew1) | exact HB.out)) hb); clear HB; have HB := n0_; clear n0_; (try clear hb); (try clear hb2); (try clear hk); (try clear hi)))
        go_ret
        exact ⟨by first | rfl | (simp [errW_none, errW_some] <;> rfl) | (simp [*, errW_none, errW_some] <;> rfl), by repeat (first | (with_reducible first | exact HB.out | apply below_alloc | apply pw_below_drewN | apply below_drew1) | exact HB.out)⟩
      · replace c10 := Bool.eq_false_iff.mpr c10
        subst c10
        have H1 : ((verify_One.f kj2 a0 256 0 0 a1).bind fun t129 => (if t129 = true then (flittinglaw20_VerifyEdges.j1 kj2 a0 a1 true) else ((verify_One.f kj2 a0 0 0 (-1) a1).bind fun t130 => (if t130 = true then (flittinglaw20_VerifyEdges.j1 kj2 a0 a1 true) else ((verify_One.f kj2 a0 4 0 0 a1).bind fun t131 => (flittinglaw20_VerifyEdges.j1 kj2 a0 a1 t131)))))) = some r := by rw [if_neg (show ¬ (false = true) by decide)] at H; exact H
        clear H
        have H := H1
        clear H1
        have HC13 := Aside0.mk H
        clear H
        go_upto_region 3 with (fail)
        go_cut [41] (fun v41 wc => ∃ (kq : Nat) (x41_12 : Bool), v41 = .bool x41_12 ∧ Aside0 (flittinglaw20_VerifyEdges.j1 kq a0 a1 x41_12 = some r) ∧ Aside0 (kq ≤ kj2) ∧ Aside0 (Below w.heap.size w wc))
        case first =>
          have H := HC13.out
          clear HC13
          replace H := Option.bind_eq_some_iff.mp H
          obtain ⟨t129, A140, H⟩ := H
          replace H : (if t129 = true then (flittinglaw20_VerifyEdges.j1 kj2 a0 a1 true) else ((verify_One.f kj2 a0 0 0 (-1) a1).bind fun t130 => (if t130 = true then (flittinglaw20_VerifyEdges.j1 kj2 a0 a1 true) else ((verify_One.f kj2 a0 4 0 0 a1).bind fun t131 => (flittinglaw20_VerifyEdges.j1 kj2 a0 a1 t131))))) = some r := H
          have A14 := Aside0.mk A140
          clear A140
          by_cases c15 : t129 = true
          · subst c15
            have H1 : (flittinglaw20_VerifyEdges.j1 kj2 a0 a1 true) = some r := by rw [if_pos rfl] at H; exact H
            clear H
            have H := H1
            clear H1
            have H' := Aside0.mk H
            clear H
            go_wp2_with (first | ((with_reducible refine gate_callee (f := 22) rfl ?_); refine goesL_ (some 29) rfl rfl Try.func22 (by kernel_rfl) rfl #[.agg #[.int .i64 a0, .int .i64 256, .int .i64 0, .int .i64 0], .int .i64 a1] rfl (by (try simp only [List.map_toArray, List.map_cons, List.map_nil]); first | done | rfl | (simp only [List.length_drop, List.length_take]; rfl)) ?_; (with_reducible refine (verify_One.calls kj2 a0 256 0 0 a1 true _ A14.out).mono ?_); rintro e w16 ⟨rfl, hb⟩; refine ⟨_, rfl, ?_⟩; have n0_ := Aside0.mk (below_step (by repeat (first | (with_reducible first | exact HB.out | apply below_alloc | apply pw_below_drewN | apply below_drew1) | exact HB.out)) hb); clear HB; have HB := n0_; clear n0_; (try clear hb); (try clear hb2); (try clear hk); (try clear hi)))
            go_meet
            case rel => exact ⟨_, (true), (by first | rfl | (simp; done) | (simp [*]; done)), H', ⟨by have := HJ2.out; first | omega | exact Nat.le_refl _⟩, ⟨by repeat (first | (with_reducible first | exact HB.out | apply below_alloc | apply pw_below_drewN | apply below_drew1) | exact HB.out)⟩⟩
          · replace c15 := Bool.eq_false_iff.mpr c15
            subst c15
            have H1 : ((verify_One.f kj2 a0 0 0 (-1) a1).bind fun t130 => (if t130 = true then (flittinglaw20_VerifyEdges.j1 kj2 a0 a1 true) else ((verify_One.f kj2 a0 4 0 0 a1).bind fun t131 => (flittinglaw20_VerifyEdges.j1 kj2 a0 a1 t131)))) = some r := by rw [if_neg (show ¬ (false = true) by decide)] at H; exact H
            clear H
            have H := H1
            clear H1
            replace H := Option.bind_eq_some_iff.mp H
            obtain ⟨t130, A170, H⟩ := H
            replace H : (if t130 = true then (flittinglaw20_VerifyEdges.j1 kj2 a0 a1 true) else ((verify_One.f kj2 a0 4 0 0 a1).bind fun t131 => (flittinglaw20_VerifyEdges.j1 kj2 a0 a1 t131))) = some r := H
            have A17 := Aside0.mk A170
            clear A170
            by_cases c18 : t130 = true
            · subst c18
              have H1 : (flittinglaw20_VerifyEdges.j1 kj2 a0 a1 true) = some r := by rw [if_pos rfl] at H; exact H
              clear H
              have H := H1
              clear H1
              have H' := Aside0.mk H
              clear H
              go_wp2_with (first | ((with_reducible refine gate_callee (f := 22) rfl ?_); refine goesL_ (some 29) rfl rfl Try.func22 (by kernel_rfl) rfl #[.agg #[.int .i64 a0, .int .i64 256, .int .i64 0, .int .i64 0], .int .i64 a1] rfl (by (try simp only [List.map_toArray, List.map_cons, List.map_nil]); first | done | rfl | (simp only [List.length_drop, List.length_take]; rfl)) ?_; (with_reducible refine (verify_One.calls kj2 a0 256 0 0 a1 false _ A14.out).mono ?_); rintro e w19 ⟨rfl, hb⟩; refine ⟨_, rfl, ?_⟩; have n0_ := Aside0.mk (below_step (by repeat (first | (with_reducible first | exact HB.out | apply below_alloc | apply pw_below_drewN | apply below_drew1) | exact HB.out)) hb); clear HB; have HB := n0_; clear n0_; (try clear hb); (try clear hb2); (try clear hk); (try clear hi)) | (go_at_call 22; (with_reducible refine (verify_One.calls kj2 a0 0 0 (-1) a1 true _ A17.out).mono ?_); rintro e w20 ⟨rfl, hb⟩; have n0_ := Aside0.mk (below_step (by repeat (first | (with_reducible first | exact HB.out | apply below_alloc | apply pw_below_drewN | apply below_drew1) | exact HB.out)) hb); clear HB; have HB := n0_; clear n0_; (try clear hb); (try clear hb2); (try clear hk); (try clear hi)))
              go_meet
              case rel => exact ⟨_, (true), (by first | rfl | (simp; done) | (simp [*]; done)), H', ⟨by have := HJ2.out; first | omega | exact Nat.le_refl _⟩, ⟨by repeat (first | (with_reducible first | exact HB.out | apply below_alloc | apply pw_below_drewN | apply below_drew1) | exact HB.out)⟩⟩
            · replace c18 := Bool.eq_false_iff.mpr c18
              subst c18
              have H1 : ((verify_One.f kj2 a0 4 0 0 a1).bind fun t131 => (flittinglaw20_VerifyEdges.j1 kj2 a0 a1 t131)) = some r := by rw [if_neg (show ¬ (false = true) by decide)] at H; exact H
              clear H
              have H := H1
              clear H1
              replace H := Option.bind_eq_some_iff.mp H
              obtain ⟨t131, A210, H⟩ := H
              replace H : (flittinglaw20_VerifyEdges.j1 kj2 a0 a1 t131) = some r := H
              have A21 := Aside0.mk A210
              clear A210
              have H' := Aside0.mk H
              clear H
              go_wp2_with (first | ((with_reducible refine gate_callee (f := 22) rfl ?_); refine goesL_ (some 29) rfl rfl Try.func22 (by kernel_rfl) rfl #[.agg #[.int .i64 a0, .int .i64 256, .int .i64 0, .int .i64 0], .int .i64 a1] rfl (by (try simp only [List.map_toArray, List.map_cons, List.map_nil]); first | done | rfl | (simp only [List.length_drop, List.length_take]; rfl)) ?_; (with_reducible refine (verify_One.calls kj2 a0 256 0 0 a1 false _ A14.out).mono ?_); rintro e w22 ⟨rfl, hb⟩; refine ⟨_, rfl, ?_⟩; have n0_ := Aside0.mk (below_step (by repeat (first | (with_reducible first | exact HB.out | apply below_alloc | apply pw_below_drewN | apply below_drew1) | exact HB.out)) hb); clear HB; have HB := n0_; clear n0_; (try clear hb); (try clear hb2); (try clear hk); (try clear hi)) | (go_at_call 22; (with_reducible refine (verify_One.calls kj2 a0 0 0 (-1) a1 false _ A17.out).mono ?_); rintro e w23 ⟨rfl, hb⟩; have n0_ := Aside0.mk (below_step (by repeat (first | (with_reducible first | exact HB.out | apply below_alloc | apply pw_below_drewN | apply below_drew1) | exact HB.out)) hb); clear HB; have HB := n0_; clear n0_; (try clear hb); (try clear hb2); (try clear hk); (try clear hi)) | (go_at_call 22; (with_reducible refine (verify_One.calls kj2 a0 4 0 0 a1 t131 _ A21.out).mono ?_); rintro e w24 ⟨rfl, hb⟩; have n0_ := Aside0.mk (below_step (by repeat (first | (with_reducible first | exact HB.out | apply below_alloc | apply pw_below_drewN | apply below_drew1) | exact HB.out)) hb); clear HB; have HB := n0_; clear n0_; (try clear hb); (try clear hb2); (try clear hk); (try clear hi)))
              go_meet
              case rel => exact ⟨_, (t131), (by first | rfl | (simp; done) | (simp [*]; done)), H', ⟨by have := HJ2.out; first | omega | exact Nat.le_refl _⟩, ⟨by repeat (first | (with_reducible first | exact HB.out | apply below_alloc | apply pw_below_drewN | apply below_drew1) | exact HB.out)⟩⟩
        case rest =>
          clear HC13
          try clear c1
          try clear c2
          try clear p2
          try clear c4
          try clear c4b0
          try clear c5
          try clear c5b0
          try clear c6
          try clear c6b0
          try clear c7
          try clear c7b0
          try clear c8
          try clear c10
          try clear c15
          try clear c18
          try clear c22
          try clear p2
          obtain ⟨kq, x41_12, rfl, HA, HJ12, HB⟩ := hcut
          cases kq with
          | zero => exact absurd HA.out (by simp [flittinglaw20_VerifyEdges.j1])
          | succ kj12 =>
            have H := HA.out
            clear HA
            simp only [flittinglaw20_VerifyEdges.j1] at H
            by_cases c25 : x41_12 = true
            · subst c25
              have H1 : (some false) = some r := by rw [if_pos rfl] at H; exact H
              clear H
              have H := H1
              clear H1
              obtain rfl := Option.some.inj H
              go_wp2
              go_ret
              exact ⟨by first | rfl | (simp [errW_none, errW_some] <;> rfl) | (simp [*, errW_none, errW_some] <;> rfl), by repeat (first | (with_reducible first | exact HB.out | apply below_alloc | apply pw_below_drewN | apply below_drew1) | exact HB.out)⟩
            · replace c25 := Bool.eq_false_iff.mpr c25
              subst c25
              have H1 : (if a0 = 5 then (flittinglaw20_VerifyEdges.j2 kj12 a0 a1 a0 (a0 == 5) a0 0 (Go.bits .and .i64 (wrap64 (a1 - 1)) 255) ((wrap64 (a1 - 1)) / 256) a0 0 (Go.bits .and .i64 a1 255) (a1 / 256)) else (flittinglaw20_VerifyEdges.j2 kj12 a0 a1 a0 (a0 == 6) a0 0 (Go.bits .and .i64 (wrap64 (a1 - 1)) 255) ((wrap64 (a1 - 1)) / 256) a0 0 (Go.bits .and .i64 a1 255) (a1 / 256))) = some r := by rw [if_neg (show ¬ (false = true) by decide)] at H; exact H
              clear H
              have H := H1
              clear H1
              have HC26 := Aside0.mk H
              clear H
              go_upto_if 57 with (first | ((with_reducible refine gate_dst (N := 5) rfl ?_); refine box_event ?hg (N := 5) ?hd (cs := #[.int .i64 0, .int .i64 0, .int .i64 0, .int .i64 0]) (t := 39) ?hr ?_; (case hd => rfl); (case hg => rfl); (case hr => first | (go_simp; done) | (go_simp; rfl)); intro gb132 hg w27 hbox hb; have n0_ := Aside0.mk (below_step (by repeat (first | (with_reducible first | exact HB.out | apply below_alloc | apply pw_below_drewN | apply below_drew1) | exact HB.out)) hb); have n1_ := Aside0.mk (hbox); have n2_ := Aside0.mk ((by rw [hg]; exact (below_size (by repeat (first | (with_reducible first | exact HB.out | apply below_alloc | apply pw_below_drewN | apply below_drew1) | exact HB.out))) : w.heap.size ≤ gb132)); have n3_ := Aside0.mk ((by rw [hg]; exact (below_size (by repeat (first | (with_reducible first | exact HB.out | apply below_alloc | apply pw_below_drewN | apply below_drew1) | exact HB.out))) : w.heap.size ≤ gb132)); clear HB; have HB := n0_; have BK132 := n1_; have GW132 := n2_; have GE132 := n3_; clear n0_ n1_ n2_ n3_; clear hb hbox hg; have hcz28_0 : w27.cell? ⟨gb132, 0, none⟩ = some (.int .i64 0) := (blk_cell BK132.out 0).trans rfl; have hcz28_1 : w27.cell? ⟨gb132, 1, none⟩ = some (.int .i64 0) := (blk_cell BK132.out 1).trans rfl; have hcz28_2 : w27.cell? ⟨gb132, 2, none⟩ = some (.int .i64 0) := (blk_cell BK132.out 2).trans rfl; have hcz28_3 : w27.cell? ⟨gb132, 3, none⟩ = some (.int .i64 0) := (blk_cell BK132.out 3).trans rfl; have hfz28_0 := blk_frozen BK132.out 0; have hfz28_1 := blk_frozen BK132.out 1; have hfz28_2 := blk_frozen BK132.out 2; have hfz28_3 := blk_frozen BK132.out 3) | ((with_reducible refine gate_dst (N := 6) rfl ?_); refine box_event ?hg (N := 6) ?hd (cs := #[.int .i64 0, .int .i64 0, .int .i64 0, .int .i64 0]) (t := 39) ?hr ?_; (case hd => rfl); (case hg => rfl); (case hr => first | (go_simp; done) | (go_simp; rfl)); intro gb133 hg w29 hbox hb; have n0_ := Aside0.mk (blk_below (g := gb132) (o := .cells #[.int .i64 a0, .int .i64 0, .int .i64 (Go.bits .and .i64 (wrap64 (a1 - 1)) 255), .int .i64 ((wrap64 (a1 - 1)) / 256)] 39 (0, 0)) (by (with_reducible repeat (first | refine blk_drewN ?_ _ | refine blk_drew ?_ | refine blk_alloc ?_ _)); refine blk_put (cs := #[.int .i64 a0, .int .i64 0, .int .i64 (Go.bits .and .i64 (wrap64 (a1 - 1)) 255), .int .i64 0]) ?_ 3 _ rfl; (with_reducible repeat (first | refine blk_drewN ?_ _ | refine blk_drew ?_ | refine blk_alloc ?_ _)); refine blk_put (cs := #[.int .i64 a0, .int .i64 0, .int .i64 0, .int .i64 0]) ?_ 2 _ rfl; (with_reducible repeat (first | refine blk_drewN ?_ _ | refine blk_drew ?_ | refine blk_alloc ?_ _)); refine blk_put (cs := #[.int .i64 a0, .int .i64 0, .int .i64 0, .int .i64 0]) ?_ 1 _ rfl; (with_reducible repeat (first | refine blk_drewN ?_ _ | refine blk_drew ?_ | refine blk_alloc ?_ _)); refine blk_put (cs := #[.int .i64 0, .int .i64 0, .int .i64 0, .int .i64 0]) ?_ 0 _ rfl; (with_reducible repeat (first | refine blk_drewN ?_ _ | refine blk_drew ?_ | refine blk_alloc ?_ _)); exact BK132.out) hb); have n1_ := Aside0.mk (below_step (by repeat (first | (with_reducible first | exact HB.out | apply below_alloc | apply pw_below_drewN | apply below_drew1 | refine below_set ?_ GE132.out) | exact HB.out)) hb); have n2_ := Aside0.mk (hbox); have n3_ := Aside0.mk ((by rw [hg]; exact (below_size (by repeat (first | (with_reducible first | exact HB.out | apply below_alloc | apply pw_below_drewN | apply below_drew1 | refine below_set ?_ GE132.out) | exact HB.out))) : w.heap.size ≤ gb133)); have n4_ := Aside0.mk ((by rw [hg]; exact (below_size (by repeat (first | (with_reducible first | exact HB.out | apply below_alloc | apply pw_below_drewN | apply below_drew1 | refine below_set ?_ GE132.out) | exact HB.out))) : w.heap.size ≤ gb133)); have n5_ := Aside0.mk ((by rw [hg]; exact Nat.ne_of_lt (blk_lt (g := gb132) (o := .cells #[.int .i64 a0, .int .i64 0, .int .i64 (Go.bits .and .i64 (wrap64 (a1 - 1)) 255), .int .i64 ((wrap64 (a1 - 1)) / 256)] 39 (0, 0)) (by (with_reducible repeat (first | refine blk_drewN ?_ _ | refine blk_drew ?_ | refine blk_alloc ?_ _)); refine blk_put (cs := #[.int .i64 a0, .int .i64 0, .int .i64 (Go.bits .and .i64 (wrap64 (a1 - 1)) 255), .int .i64 0]) ?_ 3 _ rfl; (with_reducible repeat (first | refine blk_drewN ?_ _ | refine blk_drew ?_ | refine blk_alloc ?_ _)); refine blk_put (cs := #[.int .i64 a0, .int .i64 0, .int .i64 0, .int .i64 0]) ?_ 2 _ rfl; (with_reducible repeat (first | refine blk_drewN ?_ _ | refine blk_drew ?_ | refine blk_alloc ?_ _)); refine blk_put (cs := #[.int .i64 a0, .int .i64 0, .int .i64 0, .int .i64 0]) ?_ 1 _ rfl; (with_reducible repeat (first | refine blk_drewN ?_ _ | refine blk_drew ?_ | refine blk_alloc ?_ _)); refine blk_put (cs := #[.int .i64 0, .int .i64 0, .int .i64 0, .int .i64 0]) ?_ 0 _ rfl; (with_reducible repeat (first | refine blk_drewN ?_ _ | refine blk_drew ?_ | refine blk_alloc ?_ _)); exact BK132.out)) : gb132 ≠ gb133)); have n6_ := Aside0.mk ((by rw [hg]; exact Nat.ne_of_gt (blk_lt (g := gb132) (o := .cells #[.int .i64 a0, .int .i64 0, .int .i64 (Go.bits .and .i64 (wrap64 (a1 - 1)) 255), .int .i64 ((wrap64 (a1 - 1)) / 256)] 39 (0, 0)) (by (with_reducible repeat (first | refine blk_drewN ?_ _ | refine blk_drew ?_ | refine blk_alloc ?_ _)); refine blk_put (cs := #[.int .i64 a0, .int .i64 0, .int .i64 (Go.bits .and .i64 (wrap64 (a1 - 1)) 255), .int .i64 0]) ?_ 3 _ rfl; (with_reducible repeat (first | refine blk_drewN ?_ _ | refine blk_drew ?_ | refine blk_alloc ?_ _)); refine blk_put (cs := #[.int .i64 a0, .int .i64 0, .int .i64 0, .int .i64 0]) ?_ 2 _ rfl; (with_reducible repeat (first | refine blk_drewN ?_ _ | refine blk_drew ?_ | refine blk_alloc ?_ _)); refine blk_put (cs := #[.int .i64 a0, .int .i64 0, .int .i64 0, .int .i64 0]) ?_ 1 _ rfl; (with_reducible repeat (first | refine blk_drewN ?_ _ | refine blk_drew ?_ | refine blk_alloc ?_ _)); refine blk_put (cs := #[.int .i64 0, .int .i64 0, .int .i64 0, .int .i64 0]) ?_ 0 _ rfl; (with_reducible repeat (first | refine blk_drewN ?_ _ | refine blk_drew ?_ | refine blk_alloc ?_ _)); exact BK132.out)) : gb133 ≠ gb132)); clear BK132; clear HB; have BK132 := n0_; have HB := n1_; have BK133 := n2_; have GW133 := n3_; have GE133 := n4_; have NB132_133 := n5_; have NB133_132 := n6_; clear n0_ n1_ n2_ n3_ n4_ n5_ n6_; clear hb hbox hg; have hnb30 := NB133_132.out; have hnc30 := NB132_133.out; have hcz31_0 : w29.cell? ⟨gb133, 0, none⟩ = some (.int .i64 0) := (blk_cell BK133.out 0).trans rfl; have hcz31_1 : w29.cell? ⟨gb133, 1, none⟩ = some (.int .i64 0) := (blk_cell BK133.out 1).trans rfl; have hcz31_2 : w29.cell? ⟨gb133, 2, none⟩ = some (.int .i64 0) := (blk_cell BK133.out 2).trans rfl; have hcz31_3 : w29.cell? ⟨gb133, 3, none⟩ = some (.int .i64 0) := (blk_cell BK133.out 3).trans rfl; have hfz31_0 := blk_frozen BK133.out 0; have hfz31_1 := blk_frozen BK133.out 1; have hfz31_2 := blk_frozen BK133.out 2; have hfz31_3 := blk_frozen BK133.out 3))
              (try simp only [Act.put, List.setIfInBounds_toArray, List.set_cons_zero, List.set_cons_succ])
              go_cut [57] (fun v57 wc => ∃ (kq : Nat) (x57_25 : Bool), v57 = .bool x57_25 ∧ Aside0 (flittinglaw20_VerifyEdges.j2 kq a0 a1 a0 x57_25 a0 0 (Go.bits .and .i64 (wrap64 (a1 - 1)) 255) ((wrap64 (a1 - 1)) / 256) a0 0 (Go.bits .and .i64 a1 255) (a1 / 256) = some r) ∧ Aside0 (kq ≤ kj12) ∧ Aside0 (wc.heap[gb132]? = some (.cells #[.int .i64 a0, .int .i64 0, .int .i64 (Go.bits .and .i64 (wrap64 (a1 - 1)) 255), .int .i64 ((wrap64 (a1 - 1)) / 256)] 39 (0, 0))) ∧ Aside0 (wc.heap[gb133]? = some (.cells #[.int .i64 a0, .int .i64 0, .int .i64 (Go.bits .and .i64 a1 255), .int .i64 (a1 / 256)] 39 (0, 0))) ∧ Aside0 (Below w.heap.size w wc))
              case first =>
                have H := HC26.out
                clear HC26
                by_cases c32 : a0 = 5
                · rw [if_pos c32] at H
                  have c32b0 : (a0 == 5) = true := beq_iff_eq.mpr c32
                  have c32b1 : (a0 != 5) = false := bne_eq_false_iff_eq.mpr c32
                  clear c32
                  (first | rw [c32b0] | (simp only [i64_w, i32_w]; rw [c32b0]) | skip)
                  have H' := Aside0.mk H
                  clear H
                  go_wp2
                  go_meet
                  case rel => exact ⟨_, ((a0 == 5)), (by first | rfl | (simp; done) | (simp [*]; done)), H', ⟨by have := HJ2.out; have := HJ12.out; first | omega | exact Nat.le_refl _⟩, ⟨by (with_reducible repeat (first | refine blk_drewN ?_ _ | refine blk_drew ?_ | refine blk_alloc ?_ _)); refine blk_far ?_ NB132_133.out _; (with_reducible repeat (first | refine blk_drewN ?_ _ | refine blk_drew ?_ | refine blk_alloc ?_ _)); refine blk_far ?_ NB132_133.out _; (with_reducible repeat (first | refine blk_drewN ?_ _ | refine blk_drew ?_ | refine blk_alloc ?_ _)); refine blk_far ?_ NB132_133.out _; (with_reducible repeat (first | refine blk_drewN ?_ _ | refine blk_drew ?_ | refine blk_alloc ?_ _)); refine blk_far ?_ NB132_133.out _; (with_reducible repeat (first | refine blk_drewN ?_ _ | refine blk_drew ?_ | refine blk_alloc ?_ _)); exact BK132.out⟩, ⟨by (with_reducible repeat (first | refine blk_drewN ?_ _ | refine blk_drew ?_ | refine blk_alloc ?_ _)); refine blk_put (cs := #[.int .i64 a0, .int .i64 0, .int .i64 (Go.bits .and .i64 a1 255), .int .i64 0]) ?_ 3 _ rfl; (with_reducible repeat (first | refine blk_drewN ?_ _ | refine blk_drew ?_ | refine blk_alloc ?_ _)); refine blk_put (cs := #[.int .i64 a0, .int .i64 0, .int .i64 0, .int .i64 0]) ?_ 2 _ rfl; (with_reducible repeat (first | refine blk_drewN ?_ _ | refine blk_drew ?_ | refine blk_alloc ?_ _)); refine blk_put (cs := #[.int .i64 a0, .int .i64 0, .int .i64 0, .int .i64 0]) ?_ 1 _ rfl; (with_reducible repeat (first | refine blk_drewN ?_ _ | refine blk_drew ?_ | refine blk_alloc ?_ _)); refine blk_put (cs := #[.int .i64 0, .int .i64 0, .int .i64 0, .int .i64 0]) ?_ 0 _ rfl; (with_reducible repeat (first | refine blk_drewN ?_ _ | refine blk_drew ?_ | refine blk_alloc ?_ _)); exact BK133.out⟩, ⟨by repeat (first | (with_reducible first | exact HB.out | apply below_alloc | apply pw_below_drewN | apply below_drew1 | refine below_set ?_ GE132.out | refine below_set ?_ GE133.out) | exact HB.out)⟩⟩
                · rw [if_neg c32] at H
                  have c32b0 : (a0 == 5) = false := beq_eq_false_iff_ne.mpr c32
                  have c32b1 : (a0 != 5) = true := bne_iff_ne.mpr c32
                  (first | rw [c32b0] | (simp only [i64_w, i32_w]; rw [c32b0]) | skip)
                  have H' := Aside0.mk H
                  clear H
                  go_wp2
                  go_meet
                  case rel => exact ⟨_, ((a0 == 6)), (by first | rfl | (simp; done) | (simp [*]; done)), H', ⟨by have := HJ2.out; have := HJ12.out; first | omega | exact Nat.le_refl _⟩, ⟨by (with_reducible repeat (first | refine blk_drewN ?_ _ | refine blk_drew ?_ | refine blk_alloc ?_ _)); refine blk_far ?_ NB132_133.out _; (with_reducible repeat (first | refine blk_drewN ?_ _ | refine blk_drew ?_ | refine blk_alloc ?_ _)); refine blk_far ?_ NB132_133.out _; (with_reducible repeat (first | refine blk_drewN ?_ _ | refine blk_drew ?_ | refine blk_alloc ?_ _)); refine blk_far ?_ NB132_133.out _; (with_reducible repeat (first | refine blk_drewN ?_ _ | refine blk_drew ?_ | refine blk_alloc ?_ _)); refine blk_far ?_ NB132_133.out _; (with_reducible repeat (first | refine blk_drewN ?_ _ | refine blk_drew ?_ | refine blk_alloc ?_ _)); exact BK132.out⟩, ⟨by (with_reducible repeat (first | refine blk_drewN ?_ _ | refine blk_drew ?_ | refine blk_alloc ?_ _)); refine blk_put (cs := #[.int .i64 a0, .int .i64 0, .int .i64 (Go.bits .and .i64 a1 255), .int .i64 0]) ?_ 3 _ rfl; (with_reducible repeat (first | refine blk_drewN ?_ _ | refine blk_drew ?_ | refine blk_alloc ?_ _)); refine blk_put (cs := #[.int .i64 a0, .int .i64 0, .int .i64 0, .int .i64 0]) ?_ 2 _ rfl; (with_reducible repeat (first | refine blk_drewN ?_ _ | refine blk_drew ?_ | refine blk_alloc ?_ _)); refine blk_put (cs := #[.int .i64 a0, .int .i64 0, .int .i64 0, .int .i64 0]) ?_ 1 _ rfl; (with_reducible repeat (first | refine blk_drewN ?_ _ | refine blk_drew ?_ | refine blk_alloc ?_ _)); refine blk_put (cs := #[.int .i64 0, .int .i64 0, .int .i64 0, .int .i64 0]) ?_ 0 _ rfl; (with_reducible repeat (first | refine blk_drewN ?_ _ | refine blk_drew ?_ | refine blk_alloc ?_ _)); exact BK133.out⟩, ⟨by repeat (first | (with_reducible first | exact HB.out | apply below_alloc | apply pw_below_drewN | apply below_drew1 | refine below_set ?_ GE132.out | refine below_set ?_ GE133.out) | exact HB.out)⟩⟩
              case rest =>
                clear HC26
                try clear c1
                try clear c2
                try clear p2
                try clear c3
                try clear c4
                try clear c4b0
                try clear c5
                try clear c5b0
                try clear c6
                try clear c6b0
                try clear p6
                try clear c7
                try clear c7b0
                try clear c8
                try clear c10
                try clear c15
                try clear c18
                try clear c22
                try clear c25
                try clear c30
                try clear c32
                try clear c32b0
                try clear c32b1
                try clear hcz28_0
                try clear hcz28_1
                try clear hcz28_2
                try clear hcz28_3
                try clear hcz31_0
                try clear hcz31_1
                try clear hcz31_2
                try clear hcz31_3
                try clear hfz28_0
                try clear hfz28_1
                try clear hfz28_2
                try clear hfz28_3
                try clear hfz31_0
                try clear hfz31_1
                try clear hfz31_2
                try clear hfz31_3
                try clear p2
                obtain ⟨kq, x57_25, rfl, HA, HJ25, BK132, BK133, HB⟩ := hcut
                cases kq with
                | zero => exact absurd HA.out (by simp [flittinglaw20_VerifyEdges.j2])
                | succ kj25 =>
                  have H := HA.out
                  clear HA
                  simp only [flittinglaw20_VerifyEdges.j2] at H
                  by_cases c33 : x57_25 = true
                  · subst c33
                    have H1 : ((verify_One.f kj25 a0 0 (Go.bits .and .i64 (wrap64 (a1 - 1)) 255) ((wrap64 (a1 - 1)) / 256) a1).bind fun t134 => (if t134 = true then ((verify_One.f kj25 a0 0 (Go.bits .and .i64 a1 255) (a1 / 256) a1).bind fun t135 => (some (!t135))) else (some false))) = some r := by rw [if_pos rfl] at H; exact H
                    clear H
                    have H := H1
                    clear H1
                    replace H := Option.bind_eq_some_iff.mp H
                    obtain ⟨t134, A340, H⟩ := H
                    replace H : (if t134 = true then ((verify_One.f kj25 a0 0 (Go.bits .and .i64 a1 255) (a1 / 256) a1).bind fun t135 => (some (!t135))) else (some false)) = some r := H
                    have A34 := Aside0.mk A340
                    clear A340
                    by_cases c35 : t134 = true
                    · subst c35
                      have H1 : ((verify_One.f kj25 a0 0 (Go.bits .and .i64 a1 255) (a1 / 256) a1).bind fun t135 => (some (!t135))) = some r := by rw [if_pos rfl] at H; exact H
                      clear H
                      have H := H1
                      clear H1
                      replace H := Option.bind_eq_some_iff.mp H
                      obtain ⟨t135, A360, H⟩ := H
                      replace H : (some (!t135)) = some r := H
                      have A36 := Aside0.mk A360
                      clear A360
                      obtain rfl := Option.some.inj H
                      have hnb37 := NB132_133.out
                      have hnc37 := NB133_132.out
                      have hcz38_0 : wc.cell? ⟨gb132, 0, none⟩ = some (.int .i64 a0) := (blk_cell BK132.out 0).trans rfl
                      have hcz38_1 : wc.cell? ⟨gb132, 1, none⟩ = some (.int .i64 0) := (blk_cell BK132.out 1).trans rfl
                      have hcz38_2 : wc.cell? ⟨gb132, 2, none⟩ = some (.int .i64 (Go.bits .and .i64 (wrap64 (a1 - 1)) 255)) := (blk_cell BK132.out 2).trans rfl
                      have hcz38_3 : wc.cell? ⟨gb132, 3, none⟩ = some (.int .i64 ((wrap64 (a1 - 1)) / 256)) := (blk_cell BK132.out 3).trans rfl
                      have hfz38_0 := blk_frozen BK132.out 0
                      have hfz38_1 := blk_frozen BK132.out 1
                      have hfz38_2 := blk_frozen BK132.out 2
                      have hfz38_3 := blk_frozen BK132.out 3
                      go_wp2_with (first | ((with_reducible refine gate_callee (f := 22) rfl ?_); refine goesL_ (some 62) rfl rfl Try.func22 (by kernel_rfl) rfl #[.agg #[.int .i64 a0, .int .i64 0, .int .i64 (Go.bits .and .i64 (wrap64 (a1 - 1)) 255), .int .i64 ((wrap64 (a1 - 1)) / 256)], .int .i64 a1] rfl (by (try simp only [List.map_toArray, List.map_cons, List.map_nil]); first | done | rfl | (simp only [List.length_drop, List.length_take]; rfl)) ?_; (with_reducible refine (verify_One.calls kj25 a0 0 (Go.bits .and .i64 (wrap64 (a1 - 1)) 255) ((wrap64 (a1 - 1)) / 256) a1 true _ A34.out).mono ?_); rintro e w39 ⟨rfl, hb⟩; refine ⟨_, rfl, ?_⟩; have n0_ := Aside0.mk (blk_below (g := gb132) (o := .cells #[.int .i64 a0, .int .i64 0, .int .i64 (Go.bits .and .i64 (wrap64 (a1 - 1)) 255), .int .i64 ((wrap64 (a1 - 1)) / 256)] 39 (0, 0)) (by (with_reducible repeat (first | refine blk_drewN ?_ _ | refine blk_drew ?_ | refine blk_alloc ?_ _)); exact BK132.out) hb); have n1_ := Aside0.mk (blk_below (g := gb133) (o := .cells #[.int .i64 a0, .int .i64 0, .int .i64 (Go.bits .and .i64 a1 255), .int .i64 (a1 / 256)] 39 (0, 0)) (by (with_reducible repeat (first | refine blk_drewN ?_ _ | refine blk_drew ?_ | refine blk_alloc ?_ _)); exact BK133.out) hb); have n2_ := Aside0.mk (below_step (by repeat (first | (with_reducible first | exact HB.out | apply below_alloc | apply pw_below_drewN | apply below_drew1 | refine below_set ?_ GE132.out | refine below_set ?_ GE133.out) | exact HB.out)) hb); clear BK132; clear BK133; clear HB; have BK132 := n0_; have BK133 := n1_; have HB := n2_; clear n0_ n1_ n2_; (try clear hb); (try clear hb2); (try clear hk); (try clear hi); have hcz40_0 : w39.cell? ⟨gb133, 0, none⟩ = some (.int .i64 a0) := (blk_cell BK133.out 0).trans rfl; have hcz40_1 : w39.cell? ⟨gb133, 1, none⟩ = some (.int .i64 0) := (blk_cell BK133.out 1).trans rfl; have hcz40_2 : w39.cell? ⟨gb133, 2, none⟩ = some (.int .i64 (Go.bits .and .i64 a1 255)) := (blk_cell BK133.out 2).trans rfl; have hcz40_3 : w39.cell? ⟨gb133, 3, none⟩ = some (.int .i64 (a1 / 256)) := (blk_cell BK133.out 3).trans rfl; have hfz40_0 := blk_frozen BK133.out 0; have hfz40_1 := blk_frozen BK133.out 1; have hfz40_2 := blk_frozen BK133.out 2; have hfz40_3 := blk_frozen BK133.out 3) | (go_at_call 22; (with_reducible refine (verify_One.calls kj25 a0 0 (Go.bits .and .i64 a1 255) (a1 / 256) a1 t135 _ A36.out).mono ?_); rintro e w41 ⟨rfl, hb⟩; have n0_ := Aside0.mk (blk_below (g := gb132) (o := .cells #[.int .i64 a0, .int .i64 0, .int .i64 (Go.bits .and .i64 (wrap64 (a1 - 1)) 255), .int .i64 ((wrap64 (a1 - 1)) / 256)] 39 (0, 0)) (by (with_reducible repeat (first | refine blk_drewN ?_ _ | refine blk_drew ?_ | refine blk_alloc ?_ _)); exact BK132.out) hb); have n1_ := Aside0.mk (blk_below (g := gb133) (o := .cells #[.int .i64 a0, .int .i64 0, .int .i64 (Go.bits .and .i64 a1 255), .int .i64 (a1 / 256)] 39 (0, 0)) (by (with_reducible repeat (first | refine blk_drewN ?_ _ | refine blk_drew ?_ | refine blk_alloc ?_ _)); exact BK133.out) hb); have n2_ := Aside0.mk (below_step (by repeat (first | (with_reducible first | exact HB.out | apply below_alloc | apply pw_below_drewN | apply below_drew1 | refine below_set ?_ GE132.out | refine below_set ?_ GE133.out) | exact HB.out)) hb); clear BK132; clear BK133; clear HB; have BK132 := n0_; have BK133 := n1_; have HB := n2_; clear n0_ n1_ n2_; (try clear hb); (try clear hb2); (try clear hk); (try clear hi)))
                      go_ret
                      exact ⟨by first | rfl | (simp [errW_none, errW_some] <;> rfl) | (simp [*, errW_none, errW_some] <;> rfl), by repeat (first | (with_reducible first | exact HB.out | apply below_alloc | apply pw_below_drewN | apply below_drew1 | refine below_set ?_ GE132.out | refine below_set ?_ GE133.out) | exact HB.out)⟩
                    · replace c35 := Bool.eq_false_iff.mpr c35
                      subst c35
                      have H1 : (some false) = some r := by rw [if_neg (show ¬ (false = true) by decide)] at H; exact H
                      clear H
                      have H := H1
                      clear H1
                      obtain rfl := Option.some.inj H
                      have hnb42 := NB132_133.out
                      have hnc42 := NB133_132.out
                      have hcz43_0 : wc.cell? ⟨gb132, 0, none⟩ = some (.int .i64 a0) := (blk_cell BK132.out 0).trans rfl
                      have hcz43_1 : wc.cell? ⟨gb132, 1, none⟩ = some (.int .i64 0) := (blk_cell BK132.out 1).trans rfl
                      have hcz43_2 : wc.cell? ⟨gb132, 2, none⟩ = some (.int .i64 (Go.bits .and .i64 (wrap64 (a1 - 1)) 255)) := (blk_cell BK132.out 2).trans rfl
                      have hcz43_3 : wc.cell? ⟨gb132, 3, none⟩ = some (.int .i64 ((wrap64 (a1 - 1)) / 256)) := (blk_cell BK132.out 3).trans rfl
                      have hfz43_0 := blk_frozen BK132.out 0
                      have hfz43_1 := blk_frozen BK132.out 1
                      have hfz43_2 := blk_frozen BK132.out 2
                      have hfz43_3 := blk_frozen BK132.out 3
                      go_wp2_with (first | ((with_reducible refine gate_callee (f := 22) rfl ?_); refine goesL_ (some 62) rfl rfl Try.func22 (by kernel_rfl) rfl #[.agg #[.int .i64 a0, .int .i64 0, .int .i64 (Go.bits .and .i64 (wrap64 (a1 - 1)) 255), .int .i64 ((wrap64 (a1 - 1)) / 256)], .int .i64 a1] rfl (by (try simp only [List.map_toArray, List.map_cons, List.map_nil]); first | done | rfl | (simp only [List.length_drop, List.length_take]; rfl)) ?_; (with_reducible refine (verify_One.calls kj25 a0 0 (Go.bits .and .i64 (wrap64 (a1 - 1)) 255) ((wrap64 (a1 - 1)) / 256) a1 false _ A34.out).mono ?_); rintro e w44 ⟨rfl, hb⟩; refine ⟨_, rfl, ?_⟩; have n0_ := Aside0.mk (blk_below (g := gb132) (o := .cells #[.int .i64 a0, .int .i64 0, .int .i64 (Go.bits .and .i64 (wrap64 (a1 - 1)) 255), .int .i64 ((wrap64 (a1 - 1)) / 256)] 39 (0, 0)) (by (with_reducible repeat (first | refine blk_drewN ?_ _ | refine blk_drew ?_ | refine blk_alloc ?_ _)); exact BK132.out) hb); have n1_ := Aside0.mk (blk_below (g := gb133) (o := .cells #[.int .i64 a0, .int .i64 0, .int .i64 (Go.bits .and .i64 a1 255), .int .i64 (a1 / 256)] 39 (0, 0)) (by (with_reducible repeat (first | refine blk_drewN ?_ _ | refine blk_drew ?_ | refine blk_alloc ?_ _)); exact BK133.out) hb); have n2_ := Aside0.mk (below_step (by repeat (first | (with_reducible first | exact HB.out | apply below_alloc | apply pw_below_drewN | apply below_drew1 | refine below_set ?_ GE132.out | refine below_set ?_ GE133.out) | exact HB.out)) hb); clear BK132; clear BK133; clear HB; have BK132 := n0_; have BK133 := n1_; have HB := n2_; clear n0_ n1_ n2_; (try clear hb); (try clear hb2); (try clear hk); (try clear hi)))
                      go_ret
                      exact ⟨by first | rfl | (simp [errW_none, errW_some] <;> rfl) | (simp [*, errW_none, errW_some] <;> rfl), by repeat (first | (with_reducible first | exact HB.out | apply below_alloc | apply pw_below_drewN | apply below_drew1 | refine below_set ?_ GE132.out | refine below_set ?_ GE133.out) | exact HB.out)⟩
                  · replace c33 := Bool.eq_false_iff.mpr c33
                    subst c33
                    have H1 : (if a0 = 7 then ((verify_One.f kj25 a0 3 15 30 a1).bind fun t136 => (if t136 = true then ((verify_One.f kj25 a0 0 16 0 a1).bind fun t137 => (if t137 = true then (some false) else ((verify_One.f kj25 a0 0 0 31 a1).bind fun t138 => (some (!t138))))) else (some false))) else (if a0 = 12 then (flittinglaw20_VerifyEdges.j3 kj25 a0 a1 a0 (a0 == 12)) else (flittinglaw20_VerifyEdges.j3 kj25 a0 a1 a0 (a0 == 13)))) = some r := by rw [if_neg (show ¬ (false = true) by decide)] at H; exact H
                    clear H
                    have H := H1
                    clear H1
                    by_cases c45 : a0 = 7
                    · rw [if_pos c45] at H
                      have c45b0 : (a0 == 7) = true := beq_iff_eq.mpr c45
                      have c45b1 : (a0 != 7) = false := bne_eq_false_iff_eq.mpr c45
                      clear c45
                      replace H := Option.bind_eq_some_iff.mp H
                      obtain ⟨t136, A460, H⟩ := H
                      replace H : (if t136 = true then ((verify_One.f kj25 a0 0 16 0 a1).bind fun t137 => (if t137 = true then (some false) else ((verify_One.f kj25 a0 0 0 31 a1).bind fun t138 => (some (!t138))))) else (some false)) = some r := H
                      have A46 := Aside0.mk A460
                      clear A460
                      by_cases c47 : t136 = true
                      · subst c47
                        have H1 : ((verify_One.f kj25 a0 0 16 0 a1).bind fun t137 => (if t137 = true then (some false) else ((verify_One.f kj25 a0 0 0 31 a1).bind fun t138 => (some (!t138))))) = some r := by rw [if_pos rfl] at H; exact H
                        clear H
                        have H := H1
                        clear H1
                        replace H := Option.bind_eq_some_iff.mp H
                        obtain ⟨t137, A480, H⟩ := H
                        replace H : (if t137 = true then (some false) else ((verify_One.f kj25 a0 0 0 31 a1).bind fun t138 => (some (!t138)))) = some r := H
                        have A48 := Aside0.mk A480
                        clear A480
                        by_cases c49 : t137 = true
                        · subst c49
                          have H1 : (some false) = some r := by rw [if_pos rfl] at H; exact H
                          clear H
                          have H := H1
                          clear H1
                          obtain rfl := Option.some.inj H
                          go_wp2_with (first | ((with_reducible refine gate_callee (f := 22) rfl ?_); refine goesL_ (some 74) rfl rfl Try.func22 (by kernel_rfl) rfl #[.agg #[.int .i64 a0, .int .i64 3, .int .i64 15, .int .i64 30], .int .i64 a1] rfl (by (try simp only [List.map_toArray, List.map_cons, List.map_nil]); first | done | rfl | (simp only [List.length_drop, List.length_take]; rfl)) ?_; (with_reducible refine (verify_One.calls kj25 a0 3 15 30 a1 true _ A46.out).mono ?_); rintro e w50 ⟨rfl, hb⟩; refine ⟨_, rfl, ?_⟩; have n0_ := Aside0.mk (blk_below (g := gb132) (o := .cells #[.int .i64 a0, .int .i64 0, .int .i64 (Go.bits .and .i64 (wrap64 (a1 - 1)) 255), .int .i64 ((wrap64 (a1 - 1)) / 256)] 39 (0, 0)) (by (with_reducible repeat (first | refine blk_drewN ?_ _ | refine blk_drew ?_ | refine blk_alloc ?_ _)); exact BK132.out) hb); have n1_ := Aside0.mk (blk_below (g := gb133) (o := .cells #[.int .i64 a0, .int .i64 0, .int .i64 (Go.bits .and .i64 a1 255), .int .i64 (a1 / 256)] 39 (0, 0)) (by (with_reducible repeat (first | refine blk_drewN ?_ _ | refine blk_drew ?_ | refine blk_alloc ?_ _)); exact BK133.out) hb); have n2_ := Aside0.mk (below_step (by repeat (first | (with_reducible first | exact HB.out | apply below_alloc | apply pw_below_drewN | apply below_drew1 | refine below_set ?_ GE132.out | refine below_set ?_ GE133.out) | exact HB.out)) hb); clear BK132; clear BK133; clear HB; have BK132 := n0_; have BK133 := n1_; have HB := n2_; clear n0_ n1_ n2_; (try clear hb); (try clear hb2); (try clear hk); (try clear hi)) | (go_at_call 22; (with_reducible refine (verify_One.calls kj25 a0 0 16 0 a1 true _ A48.out).mono ?_); rintro e w51 ⟨rfl, hb⟩; have n0_ := Aside0.mk (blk_below (g := gb132) (o := .cells #[.int .i64 a0, .int .i64 0, .int .i64 (Go.bits .and .i64 (wrap64 (a1 - 1)) 255), .int .i64 ((wrap64 (a1 - 1)) / 256)] 39 (0, 0)) (by (with_reducible repeat (first | refine blk_drewN ?_ _ | refine blk_drew ?_ | refine blk_alloc ?_ _)); exact BK132.out) hb); have n1_ := Aside0.mk (blk_below (g := gb133) (o := .cells #[.int .i64 a0, .int .i64 0, .int .i64 (Go.bits .and .i64 a1 255), .int .i64 (a1 / 256)] 39 (0, 0)) (by (with_reducible repeat (first | refine blk_drewN ?_ _ | refine blk_drew ?_ | refine blk_alloc ?_ _)); exact BK133.out) hb); have n2_ := Aside0.mk (below_step (by repeat (first | (with_reducible first | exact HB.out | apply below_alloc | apply pw_below_drewN | apply below_drew1 | refine below_set ?_ GE132.out | refine below_set ?_ GE133.out) | exact HB.out)) hb); clear BK132; clear BK133; clear HB; have BK132 := n0_; have BK133 := n1_; have HB := n2_; clear n0_ n1_ n2_; (try clear hb); (try clear hb2); (try clear hk); (try clear hi)))
                          go_ret
                          exact ⟨by first | rfl | (simp [errW_none, errW_some] <;> rfl) | (simp [*, errW_none, errW_some] <;> rfl), by repeat (first | (with_reducible first | exact HB.out | apply below_alloc | apply pw_below_drewN | apply below_drew1 | refine below_set ?_ GE132.out | refine below_set ?_ GE133.out) | exact HB.out)⟩
                        · replace c49 := Bool.eq_false_iff.mpr c49
                          subst c49
                          have H1 : ((verify_One.f kj25 a0 0 0 31 a1).bind fun t138 => (some (!t138))) = some r := by rw [if_neg (show ¬ (false = true) by decide)] at H; exact H
                          clear H
                          have H := H1
                          clear H1
                          replace H := Option.bind_eq_some_iff.mp H
                          obtain ⟨t138, A520, H⟩ := H
                          replace H : (some (!t138)) = some r := H
                          have A52 := Aside0.mk A520
                          clear A520
                          obtain rfl := Option.some.inj H
                          go_wp2_with (first | ((with_reducible refine gate_callee (f := 22) rfl ?_); refine goesL_ (some 74) rfl rfl Try.func22 (by kernel_rfl) rfl #[.agg #[.int .i64 a0, .int .i64 3, .int .i64 15, .int .i64 30], .int .i64 a1] rfl (by (try simp only [List.map_toArray, List.map_cons, List.map_nil]); first | done | rfl | (simp only [List.length_drop, List.length_take]; rfl)) ?_; (with_reducible refine (verify_One.calls kj25 a0 3 15 30 a1 true _ A46.out).mono ?_); rintro e w53 ⟨rfl, hb⟩; refine ⟨_, rfl, ?_⟩; have n0_ := Aside0.mk (blk_below (g := gb132) (o := .cells #[.int .i64 a0, .int .i64 0, .int .i64 (Go.bits .and .i64 (wrap64 (a1 - 1)) 255), .int .i64 ((wrap64 (a1 - 1)) / 256)] 39 (0, 0)) (by (with_reducible repeat (first | refine blk_drewN ?_ _ | refine blk_drew ?_ | refine blk_alloc ?_ _)); exact BK132.out) hb); have n1_ := Aside0.mk (blk_below (g := gb133) (o := .cells #[.int .i64 a0, .int .i64 0, .int .i64 (Go.bits .and .i64 a1 255), .int .i64 (a1 / 256)] 39 (0, 0)) (by (with_reducible repeat (first | refine blk_drewN ?_ _ | refine blk_drew ?_ | refine blk_alloc ?_ _)); exact BK133.out) hb); have n2_ := Aside0.mk (below_step (by repeat (first | (with_reducible first | exact HB.out | apply below_alloc | apply pw_below_drewN | apply below_drew1 | refine below_set ?_ GE132.out | refine below_set ?_ GE133.out) | exact HB.out)) hb); clear BK132; clear BK133; clear HB; have BK132 := n0_; have BK133 := n1_; have HB := n2_; clear n0_ n1_ n2_; (try clear hb); (try clear hb2); (try clear hk); (try clear hi)) | (go_at_call 22; (with_reducible refine (verify_One.calls kj25 a0 0 16 0 a1 false _ A48.out).mono ?_); rintro e w54 ⟨rfl, hb⟩; have n0_ := Aside0.mk (blk_below (g := gb132) (o := .cells #[.int .i64 a0, .int .i64 0, .int .i64 (Go.bits .and .i64 (wrap64 (a1 - 1)) 255), .int .i64 ((wrap64 (a1 - 1)) / 256)] 39 (0, 0)) (by (with_reducible repeat (first | refine blk_drewN ?_ _ | refine blk_drew ?_ | refine blk_alloc ?_ _)); exact BK132.out) hb); have n1_ := Aside0.mk (blk_below (g := gb133) (o := .cells #[.int .i64 a0, .int .i64 0, .int .i64 (Go.bits .and .i64 a1 255), .int .i64 (a1 / 256)] 39 (0, 0)) (by (with_reducible repeat (first | refine blk_drewN ?_ _ | refine blk_drew ?_ | refine blk_alloc ?_ _)); exact BK133.out) hb); have n2_ := Aside0.mk (below_step (by repeat (first | (with_reducible first | exact HB.out | apply below_alloc | apply pw_below_drewN | apply below_drew1 | refine below_set ?_ GE132.out | refine below_set ?_ GE133.out) | exact HB.out)) hb); clear BK132; clear BK133; clear HB; have BK132 := n0_; have BK133 := n1_; have HB := n2_; clear n0_ n1_ n2_; (try clear hb); (try clear hb2); (try clear hk); (try clear hi)) | (go_at_call 22; (with_reducible refine (verify_One.calls kj25 a0 0 0 31 a1 t138 _ A52.out).mono ?_); rintro e w55 ⟨rfl, hb⟩; have n0_ := Aside0.mk (blk_below (g := gb132) (o := .cells #[.int .i64 a0, .int .i64 0, .int .i64 (Go.bits .and .i64 (wrap64 (a1 - 1)) 255), .int .i64 ((wrap64 (a1 - 1)) / 256)] 39 (0, 0)) (by (with_reducible repeat (first | refine blk_drewN ?_ _ | refine blk_drew ?_ | refine blk_alloc ?_ _)); exact BK132.out) hb); have n1_ := Aside0.mk (blk_below (g := gb133) (o := .cells #[.int .i64 a0, .int .i64 0, .int .i64 (Go.bits .and .i64 a1 255), .int .i64 (a1 / 256)] 39 (0, 0)) (by (with_reducible repeat (first | refine blk_drewN ?_ _ | refine blk_drew ?_ | refine blk_alloc ?_ _)); exact BK133.out) hb); have n2_ := Aside0.mk (below_step (by repeat (first | (with_reducible first | exact HB.out | apply below_alloc | apply pw_below_drewN | apply below_drew1 | refine below_set ?_ GE132.out | refine below_set ?_ GE133.out) | exact HB.out)) hb); clear BK132; clear BK133; clear HB; have BK132 := n0_; have BK133 := n1_; have HB := n2_; clear n0_ n1_ n2_; (try clear hb); (try clear hb2); (try clear hk); (try clear hi)))
                          go_ret
                          exact ⟨by first | rfl | (simp [errW_none, errW_some] <;> rfl) | (simp [*, errW_none, errW_some] <;> rfl), by repeat (first | (with_reducible first | exact HB.out | apply below_alloc | apply pw_below_drewN | apply below_drew1 | refine below_set ?_ GE132.out | refine below_set ?_ GE133.out) | exact HB.out)⟩
                      · replace c47 := Bool.eq_false_iff.mpr c47
                        subst c47
                        have H1 : (some false) = some r := by rw [if_neg (show ¬ (false = true) by decide)] at H; exact H
                        clear H
                        have H := H1
                        clear H1
                        obtain rfl := Option.some.inj H
                        go_wp2_with (first | ((with_reducible refine gate_callee (f := 22) rfl ?_); refine goesL_ (some 74) rfl rfl Try.func22 (by kernel_rfl) rfl #[.agg #[.int .i64 a0, .int .i64 3, .int .i64 15, .int .i64 30], .int .i64 a1] rfl (by (try simp only [List.map_toArray, List.map_cons, List.map_nil]); first | done | rfl | (simp only [List.length_drop, List.length_take]; rfl)) ?_; (with_reducible refine (verify_One.calls kj25 a0 3 15 30 a1 false _ A46.out).mono ?_); rintro e w56 ⟨rfl, hb⟩; refine ⟨_, rfl, ?_⟩; have n0_ := Aside0.mk (blk_below (g := gb132) (o := .cells #[.int .i64 a0, .int .i64 0, .int .i64 (Go.bits .and .i64 (wrap64 (a1 - 1)) 255), .int .i64 ((wrap64 (a1 - 1)) / 256)] 39 (0, 0)) (by (with_reducible repeat (first | refine blk_drewN ?_ _ | refine blk_drew ?_ | refine blk_alloc ?_ _)); exact BK132.out) hb); have n1_ := Aside0.mk (blk_below (g := gb133) (o := .cells #[.int .i64 a0, .int .i64 0, .int .i64 (Go.bits .and .i64 a1 255), .int .i64 (a1 / 256)] 39 (0, 0)) (by (with_reducible repeat (first | refine blk_drewN ?_ _ | refine blk_drew ?_ | refine blk_alloc ?_ _)); exact BK133.out) hb); have n2_ := Aside0.mk (below_step (by repeat (first | (with_reducible first | exact HB.out | apply below_alloc | apply pw_below_drewN | apply below_drew1 | refine below_set ?_ GE132.out | refine below_set ?_ GE133.out) | exact HB.out)) hb); clear BK132; clear BK133; clear HB; have BK132 := n0_; have BK133 := n1_; have HB := n2_; clear n0_ n1_ n2_; (try clear hb); (try clear hb2); (try clear hk); (try clear hi)))
                        go_ret
                        exact ⟨by first | rfl | (simp [errW_none, errW_some] <;> rfl) | (simp [*, errW_none, errW_some] <;> rfl), by repeat (first | (with_reducible first | exact HB.out | apply below_alloc | apply pw_below_drewN | apply below_drew1 | refine below_set ?_ GE132.out | refine below_set ?_ GE133.out) | exact HB.out)⟩
                    · rw [if_neg c45] at H
                      have c45b0 : (a0 == 7) = false := beq_eq_false_iff_ne.mpr c45
                      have c45b1 : (a0 != 7) = true := bne_iff_ne.mpr c45
                      have HC57 := Aside0.mk H
                      clear H
                      go_upto_if 89 with (fail)
                      go_cut [89] (fun v89 wc => ∃ (kq : Nat) (x89_56 : Bool), v89 = .bool x89_56 ∧ Aside0 (flittinglaw20_VerifyEdges.j3 kq a0 a1 a0 x89_56 = some r) ∧ Aside0 (kq ≤ kj25) ∧ Aside0 (wc.heap[gb132]? = some (.cells #[.int .i64 a0, .int .i64 0, .int .i64 (Go.bits .and .i64 (wrap64 (a1 - 1)) 255), .int .i64 ((wrap64 (a1 - 1)) / 256)] 39 (0, 0))) ∧ Aside0 (wc.heap[gb133]? = some (.cells #[.int .i64 a0, .int .i64 0, .int .i64 (Go.bits .and .i64 a1 255), .int .i64 (a1 / 256)] 39 (0, 0))) ∧ Aside0 (Below w.heap.size w wc))
                      case first =>
                        have H := HC57.out
                        clear HC57
                        by_cases c58 : a0 = 12
                        · rw [if_pos c58] at H
                          have c58b0 : (a0 == 12) = true := beq_iff_eq.mpr c58
                          have c58b1 : (a0 != 12) = false := bne_eq_false_iff_eq.mpr c58
                          clear c58
                          (first | rw [c58b0] | (simp only [i64_w, i32_w]; rw [c58b0]) | skip)
                          have H' := Aside0.mk H
                          clear H
                          go_wp2
                          go_meet
                          case rel => exact ⟨_, ((a0 == 12)), (by first | rfl | (simp; done) | (simp [*]; done)), H', ⟨by have := HJ2.out; have := HJ12.out; have := HJ25.out; first | omega | exact Nat.le_refl _⟩, ⟨by (with_reducible repeat (first | refine blk_drewN ?_ _ | refine blk_drew ?_ | refine blk_alloc ?_ _)); exact BK132.out⟩, ⟨by (with_reducible repeat (first | refine blk_drewN ?_ _ | refine blk_drew ?_ | refine blk_alloc ?_ _)); exact BK133.out⟩, ⟨by repeat (first | (with_reducible first | exact HB.out | apply below_alloc | apply pw_below_drewN | apply below_drew1 | refine below_set ?_ GE132.out | refine below_set ?_ GE133.out) | exact HB.out)⟩⟩
                        · rw [if_neg c58] at H
                          have c58b0 : (a0 == 12) = false := beq_eq_false_iff_ne.mpr c58
                          have c58b1 : (a0 != 12) = true := bne_iff_ne.mpr c58
                          (first | rw [c58b0] | (simp only [i64_w, i32_w]; rw [c58b0]) | skip)
                          have H' := Aside0.mk H
                          clear H
                          go_wp2
                          go_meet
                          case rel => exact ⟨_, ((a0 == 13)), (by first | rfl | (simp; done) | (simp [*]; done)), H', ⟨by have := HJ2.out; have := HJ12.out; have := HJ25.out; first | omega | exact Nat.le_refl _⟩, ⟨by (with_reducible repeat (first | refine blk_drewN ?_ _ | refine blk_drew ?_ | refine blk_alloc ?_ _)); exact BK132.out⟩, ⟨by (with_reducible repeat (first | refine blk_drewN ?_ _ | refine blk_drew ?_ | refine blk_alloc ?_ _)); exact BK133.out⟩, ⟨by repeat (first | (with_reducible first | exact HB.out | apply below_alloc | apply pw_below_drewN | apply below_drew1 | refine below_set ?_ GE132.out | refine below_set ?_ GE133.out) | exact HB.out)⟩⟩
                      case rest =>
                        clear HC57
                        try clear c1
                        try clear c2
                        try clear p2
                        try clear c3
                        try clear c4
                        try clear c4b0
                        try clear c5
                        try clear c5b0
                        try clear c6
                        try clear c6b0
                        try clear p6
                        try clear c7
                        try clear c7b0
                        try clear c8
                        try clear c10
                        try clear c15
                        try clear c18
                        try clear c22
                        try clear c25
                        try clear c30
                        try clear c32
                        try clear c32b0
                        try clear c32b1
                        try clear c33
                        try clear c35
                        try clear c37
                        try clear c42
                        try clear c45
                        try clear c45b0
                        try clear c45b1
                        try clear c47
                        try clear c49
                        try clear c58
                        try clear c58b0
                        try clear c58b1
                        try clear hcz28_0
                        try clear hcz28_1
                        try clear hcz28_2
                        try clear hcz28_3
                        try clear hcz31_0
                        try clear hcz31_1
                        try clear hcz31_2
                        try clear hcz31_3
                        try clear hcz38_0
                        try clear hcz38_1
                        try clear hcz38_2
                        try clear hcz38_3
                        try clear hcz40_0
                        try clear hcz40_1
                        try clear hcz40_2
                        try clear hcz40_3
                        try clear hcz43_0
                        try clear hcz43_1
                        try clear hcz43_2
                        try clear hcz43_3
                        try clear hfz28_0
                        try clear hfz28_1
                        try clear hfz28_2
                        try clear hfz28_3
                        try clear hfz31_0
                        try clear hfz31_1
                        try clear hfz31_2
                        try clear hfz31_3
                        try clear hfz38_0
                        try clear hfz38_1
                        try clear hfz38_2
                        try clear hfz38_3
                        try clear hfz40_0
                        try clear hfz40_1
                        try clear hfz40_2
                        try clear hfz40_3
                        try clear hfz43_0
                        try clear hfz43_1
                        try clear hfz43_2
                        try clear hfz43_3
                        try clear p2
                        try clear p6
                        obtain ⟨kq, x89_56, rfl, HA, HJ56, BK132, BK133, HB⟩ := hcut
                        cases kq with
                        | zero => exact absurd HA.out (by simp [flittinglaw20_VerifyEdges.j3])
                        | succ kj56 =>
                          have H := HA.out
                          clear HA
                          simp only [flittinglaw20_VerifyEdges.j3] at H
                          by_cases c59 : x89_56 = true
                          · subst c59
                            have H1 : ((verify_One.f kj56 a0 3 7 0 a1).bind fun t139 => (if t139 = true then ((verify_One.f kj56 a0 0 8 0 a1).bind fun t140 => (if t140 = true then (some false) else ((verify_One.f kj56 a0 0 0 1 a1).bind fun t141 => (some (!t141))))) else (some false))) = some r := by rw [if_pos rfl] at H; exact H
                            clear H
                            have H := H1
                            clear H1
                            replace H := Option.bind_eq_some_iff.mp H
                            obtain ⟨t139, A600, H⟩ := H
                            replace H : (if t139 = true then ((verify_One.f kj56 a0 0 8 0 a1).bind fun t140 => (if t140 = true then (some false) else ((verify_One.f kj56 a0 0 0 1 a1).bind fun t141 => (some (!t141))))) else (some false)) = some r := H
                            have A60 := Aside0.mk A600
                            clear A600
                            by_cases c61 : t139 = true
                            · subst c61
                              have H1 : ((verify_One.f kj56 a0 0 8 0 a1).bind fun t140 => (if t140 = true then (some false) else ((verify_One.f kj56 a0 0 0 1 a1).bind fun t141 => (some (!t141))))) = some r := by rw [if_pos rfl] at H; exact H
                              clear H
                              have H := H1
                              clear H1
                              replace H := Option.bind_eq_some_iff.mp H
                              obtain ⟨t140, A620, H⟩ := H
                              replace H : (if t140 = true then (some false) else ((verify_One.f kj56 a0 0 0 1 a1).bind fun t141 => (some (!t141)))) = some r := H
                              have A62 := Aside0.mk A620
                              clear A620
                              by_cases c63 : t140 = true
                              · subst c63
                                have H1 : (some false) = some r := by rw [if_pos rfl] at H; exact H
                                clear H
                                have H := H1
                                clear H1
                                obtain rfl := Option.some.inj H
                                go_wp2_with (first | ((with_reducible refine gate_callee (f := 22) rfl ?_); refine goesL_ (some 95) rfl rfl Try.func22 (by kernel_rfl) rfl #[.agg #[.int .i64 a0, .int .i64 3, .int .i64 7, .int .i64 0], .int .i64 a1] rfl (by (try simp only [List.map_toArray, List.map_cons, List.map_nil]); first | done | rfl | (simp only [List.length_drop, List.length_take]; rfl)) ?_; (with_reducible refine (verify_One.calls kj56 a0 3 7 0 a1 true _ A60.out).mono ?_); rintro e w64 ⟨rfl, hb⟩; refine ⟨_, rfl, ?_⟩; have n0_ := Aside0.mk (blk_below (g := gb132) (o := .cells #[.int .i64 a0, .int .i64 0, .int .i64 (Go.bits .and .i64 (wrap64 (a1 - 1)) 255), .int .i64 ((wrap64 (a1 - 1)) / 256)] 39 (0, 0)) (by (with_reducible repeat (first | refine blk_drewN ?_ _ | refine blk_drew ?_ | refine blk_alloc ?_ _)); exact BK132.out) hb); have n1_ := Aside0.mk (blk_below (g := gb133) (o := .cells #[.int .i64 a0, .int .i64 0, .int .i64 (Go.bits .and .i64 a1 255), .int .i64 (a1 / 256)] 39 (0, 0)) (by (with_reducible repeat (first | refine blk_drewN ?_ _ | refine blk_drew ?_ | refine blk_alloc ?_ _)); exact BK133.out) hb); have n2_ := Aside0.mk (below_step (by repeat (first | (with_reducible first | exact HB.out | apply below_alloc | apply pw_below_drewN | apply below_drew1 | refine below_set ?_ GE132.out | refine below_set ?_ GE133.out) | exact HB.out)) hb); clear BK132; clear BK133; clear HB; have BK132 := n0_; have BK133 := n1_; have HB := n2_; clear n0_ n1_ n2_; (try clear hb); (try clear hb2); (try clear hk); (try clear hi)) | (go_at_call 22; (with_reducible refine (verify_One.calls kj56 a0 0 8 0 a1 true _ A62.out).mono ?_); rintro e w65 ⟨rfl, hb⟩; have n0_ := Aside0.mk (blk_below (g := gb132) (o := .cells #[.int .i64 a0, .int .i64 0, .int .i64 (Go.bits .and .i64 (wrap64 (a1 - 1)) 255), .int .i64 ((wrap64 (a1 - 1)) / 256)] 39 (0, 0)) (by (with_reducible repeat (first | refine blk_drewN ?_ _ | refine blk_drew ?_ | refine blk_alloc ?_ _)); exact BK132.out) hb); have n1_ := Aside0.mk (blk_below (g := gb133) (o := .cells #[.int .i64 a0, .int .i64 0, .int .i64 (Go.bits .and .i64 a1 255), .int .i64 (a1 / 256)] 39 (0, 0)) (by (with_reducible repeat (first | refine blk_drewN ?_ _ | refine blk_drew ?_ | refine blk_alloc ?_ _)); exact BK133.out) hb); have n2_ := Aside0.mk (below_step (by repeat (first | (with_reducible first | exact HB.out | apply below_alloc | apply pw_below_drewN | apply below_drew1 | refine below_set ?_ GE132.out | refine below_set ?_ GE133.out) | exact HB.out)) hb); clear BK132; clear BK133; clear HB; have BK132 := n0_; have BK133 := n1_; have HB := n2_; clear n0_ n1_ n2_; (try clear hb); (try clear hb2); (try clear hk); (try clear hi)))
                                go_ret
                                exact ⟨by first | rfl | (simp [errW_none, errW_some] <;> rfl) | (simp [*, errW_none, errW_some] <;> rfl), by repeat (first | (with_reducible first | exact HB.out | apply below_alloc | apply pw_below_drewN | apply below_drew1 | refine below_set ?_ GE132.out | refine below_set ?_ GE133.out) | exact HB.out)⟩
                              · replace c63 := Bool.eq_false_iff.mpr c63
                                subst c63
                                have H1 : ((verify_One.f kj56 a0 0 0 1 a1).bind fun t141 => (some (!t141))) = some r := by rw [if_neg (show ¬ (false = true) by decide)] at H; exact H
                                clear H
                                have H := H1
                                clear H1
                                replace H := Option.bind_eq_some_iff.mp H
                                obtain ⟨t141, A660, H⟩ := H
                                replace H : (some (!t141)) = some r := H
                                have A66 := Aside0.mk A660
                                clear A660
                                obtain rfl := Option.some.inj H
                                go_wp2_with (first | ((with_reducible refine gate_callee (f := 22) rfl ?_); refine goesL_ (some 95) rfl rfl Try.func22 (by kernel_rfl) rfl #[.agg #[.int .i64 a0, .int .i64 3, .int .i64 7, .int .i64 0], .int .i64 a1] rfl (by (try simp only [List.map_toArray, List.map_cons, List.map_nil]); first | done | rfl | (simp only [List.length_drop, List.length_take]; rfl)) ?_; (with_reducible refine (verify_One.calls kj56 a0 3 7 0 a1 true _ A60.out).mono ?_); rintro e w67 ⟨rfl, hb⟩; refine ⟨_, rfl, ?_⟩; have n0_ := Aside0.mk (blk_below (g := gb132) (o := .cells #[.int .i64 a0, .int .i64 0, .int .i64 (Go.bits .and .i64 (wrap64 (a1 - 1)) 255), .int .i64 ((wrap64 (a1 - 1)) / 256)] 39 (0, 0)) (by (with_reducible repeat (first | refine blk_drewN ?_ _ | refine blk_drew ?_ | refine blk_alloc ?_ _)); exact BK132.out) hb); have n1_ := Aside0.mk (blk_below (g := gb133) (o := .cells #[.int .i64 a0, .int .i64 0, .int .i64 (Go.bits .and .i64 a1 255), .int .i64 (a1 / 256)] 39 (0, 0)) (by (with_reducible repeat (first | refine blk_drewN ?_ _ | refine blk_drew ?_ | refine blk_alloc ?_ _)); exact BK133.out) hb); have n2_ := Aside0.mk (below_step (by repeat (first | (with_reducible first | exact HB.out | apply below_alloc | apply pw_below_drewN | apply below_drew1 | refine below_set ?_ GE132.out | refine below_set ?_ GE133.out) | exact HB.out)) hb); clear BK132; clear BK133; clear HB; have BK132 := n0_; have BK133 := n1_; have HB := n2_; clear n0_ n1_ n2_; (try clear hb); (try clear hb2); (try clear hk); (try clear hi)) | (go_at_call 22; (with_reducible refine (verify_One.calls kj56 a0 0 8 0 a1 false _ A62.out).mono ?_); rintro e w68 ⟨rfl, hb⟩; have n0_ := Aside0.mk (blk_below (g := gb132) (o := .cells #[.int .i64 a0, .int .i64 0, .int .i64 (Go.bits .and .i64 (wrap64 (a1 - 1)) 255), .int .i64 ((wrap64 (a1 - 1)) / 256)] 39 (0, 0)) (by (with_reducible repeat (first | refine blk_drewN ?_ _ | refine blk_drew ?_ | refine blk_alloc ?_ _)); exact BK132.out) hb); have n1_ := Aside0.mk (blk_below (g := gb133) (o := .cells #[.int .i64 a0, .int .i64 0, .int .i64 (Go.bits .and .i64 a1 255), .int .i64 (a1 / 256)] 39 (0, 0)) (by (with_reducible repeat (first | refine blk_drewN ?_ _ | refine blk_drew ?_ | refine blk_alloc ?_ _)); exact BK133.out) hb); have n2_ := Aside0.mk (below_step (by repeat (first | (with_reducible first | exact HB.out | apply below_alloc | apply pw_below_drewN | apply below_drew1 | refine below_set ?_ GE132.out | refine below_set ?_ GE133.out) | exact HB.out)) hb); clear BK132; clear BK133; clear HB; have BK132 := n0_; have BK133 := n1_; have HB := n2_; clear n0_ n1_ n2_; (try clear hb); (try clear hb2); (try clear hk); (try clear hi)) | (go_at_call 22; (with_reducible refine (verify_One.calls kj56 a0 0 0 1 a1 t141 _ A66.out).mono ?_); rintro e w69 ⟨rfl, hb⟩; have n0_ := Aside0.mk (blk_below (g := gb132) (o := .cells #[.int .i64 a0, .int .i64 0, .int .i64 (Go.bits .and .i64 (wrap64 (a1 - 1)) 255), .int .i64 ((wrap64 (a1 - 1)) / 256)] 39 (0, 0)) (by (with_reducible repeat (first | refine blk_drewN ?_ _ | refine blk_drew ?_ | refine blk_alloc ?_ _)); exact BK132.out) hb); have n1_ := Aside0.mk (blk_below (g := gb133) (o := .cells #[.int .i64 a0, .int .i64 0, .int .i64 (Go.bits .and .i64 a1 255), .int .i64 (a1 / 256)] 39 (0, 0)) (by (with_reducible repeat (first | refine blk_drewN ?_ _ | refine blk_drew ?_ | refine blk_alloc ?_ _)); exact BK133.out) hb); have n2_ := Aside0.mk (below_step (by repeat (first | (with_reducible first | exact HB.out | apply below_alloc | apply pw_below_drewN | apply below_drew1 | refine below_set ?_ GE132.out | refine below_set ?_ GE133.out) | exact HB.out)) hb); clear BK132; clear BK133; clear HB; have BK132 := n0_; have BK133 := n1_; have HB := n2_; clear n0_ n1_ n2_; (try clear hb); (try clear hb2); (try clear hk); (try clear hi)))
                                go_ret
                                exact ⟨by first | rfl | (simp [errW_none, errW_some] <;> rfl) | (simp [*, errW_none, errW_some] <;> rfl), by repeat (first | (with_reducible first | exact HB.out | apply below_alloc | apply pw_below_drewN | apply below_drew1 | refine below_set ?_ GE132.out | refine below_set ?_ GE133.out) | exact HB.out)⟩
                            · replace c61 := Bool.eq_false_iff.mpr c61
                              subst c61
                              have H1 : (some false) = some r := by rw [if_neg (show ¬ (false = true) by decide)] at H; exact H
                              clear H
                              have H := H1
                              clear H1
                              obtain rfl := Option.some.inj H
                              go_wp2_with (first | ((with_reducible refine gate_callee (f := 22) rfl ?_); refine goesL_ (some 95) rfl rfl Try.func22 (by kernel_rfl) rfl #[.agg #[.int .i64 a0, .int .i64 3, .int .i64 7, .int .i64 0], .int .i64 a1] rfl (by (try simp only [List.map_toArray, List.map_cons, List.map_nil]); first | done | rfl | (simp only [List.length_drop, List.length_take]; rfl)) ?_; (with_reducible refine (verify_One.calls kj56 a0 3 7 0 a1 false _ A60.out).mono ?_); rintro e w70 ⟨rfl, hb⟩; refine ⟨_, rfl, ?_⟩; have n0_ := Aside0.mk (blk_below (g := gb132) (o := .cells #[.int .i64 a0, .int .i64 0, .int .i64 (Go.bits .and .i64 (wrap64 (a1 - 1)) 255), .int .i64 ((wrap64 (a1 - 1)) / 256)] 39 (0, 0)) (by (with_reducible repeat (first | refine blk_drewN ?_ _ | refine blk_drew ?_ | refine blk_alloc ?_ _)); exact BK132.out) hb); have n1_ := Aside0.mk (blk_below (g := gb133) (o := .cells #[.int .i64 a0, .int .i64 0, .int .i64 (Go.bits .and .i64 a1 255), .int .i64 (a1 / 256)] 39 (0, 0)) (by (with_reducible repeat (first | refine blk_drewN ?_ _ | refine blk_drew ?_ | refine blk_alloc ?_ _)); exact BK133.out) hb); have n2_ := Aside0.mk (below_step (by repeat (first | (with_reducible first | exact HB.out | apply below_alloc | apply pw_below_drewN | apply below_drew1 | refine below_set ?_ GE132.out | refine below_set ?_ GE133.out) | exact HB.out)) hb); clear BK132; clear BK133; clear HB; have BK132 := n0_; have BK133 := n1_; have HB := n2_; clear n0_ n1_ n2_; (try clear hb); (try clear hb2); (try clear hk); (try clear hi)))
                              go_ret
                              exact ⟨by first | rfl | (simp [errW_none, errW_some] <;> rfl) | (simp [*, errW_none, errW_some] <;> rfl), by repeat (first | (with_reducible first | exact HB.out | apply below_alloc | apply pw_below_drewN | apply below_drew1 | refine below_set ?_ GE132.out | refine below_set ?_ GE133.out) | exact HB.out)⟩
                          · replace c59 := Bool.eq_false_iff.mpr c59
                            subst c59
                            have H1 : (if a0 = 0 then (flittinglaw20_VerifyEdges.j4 kj56 a0 a1 a0 (a0 == 0)) else (if a0 = 14 then (flittinglaw20_VerifyEdges.j4 kj56 a0 a1 a0 (a0 == 14)) else (flittinglaw20_VerifyEdges.j4 kj56 a0 a1 a0 (a0 == 15)))) = some r := by rw [if_neg (show ¬ (false = true) by decide)] at H; exact H
                            clear H
                            have H := H1
                            clear H1
                            have HC71 := Aside0.mk H
                            clear H
                            go_upto_if 110 with (fail)
                            go_cut [110] (fun v110 wc => ∃ (kq : Nat) (x110_70 : Bool), v110 = .bool x110_70 ∧ Aside0 (flittinglaw20_VerifyEdges.j4 kq a0 a1 a0 x110_70 = some r) ∧ Aside0 (kq ≤ kj56) ∧ Aside0 (wc.heap[gb132]? = some (.cells #[.int .i64 a0, .int .i64 0, .int .i64 (Go.bits .and .i64 (wrap64 (a1 - 1)) 255), .int .i64 ((wrap64 (a1 - 1)) / 256)] 39 (0, 0))) ∧ Aside0 (wc.heap[gb133]? = some (.cells #[.int .i64 a0, .int .i64 0, .int .i64 (Go.bits .and .i64 a1 255), .int .i64 (a1 / 256)] 39 (0, 0))) ∧ Aside0 (Below w.heap.size w wc))
                            case first =>
                              have H := HC71.out
                              clear HC71
                              by_cases c72 : a0 = 0
                              · rw [if_pos c72] at H
                                have c72b0 : (a0 == 0) = true := beq_iff_eq.mpr c72
                                have c72b1 : (a0 != 0) = false := bne_eq_false_iff_eq.mpr c72
                                clear c72
                                (first | rw [c72b0] | (simp only [i64_w, i32_w]; rw [c72b0]) | skip)
                                have H' := Aside0.mk H
                                clear H
                                go_wp2
                                go_meet
                                case rel => exact ⟨_, ((a0 == 0)), (by first | rfl | (simp; done) | (simp [*]; done)), H', ⟨by have := HJ2.out; have := HJ12.out; have := HJ25.out; have := HJ56.out; first | omega | exact Nat.le_refl _⟩, ⟨by (with_reducible repeat (first | refine blk_drewN ?_ _ | refine blk_drew ?_ | refine blk_alloc ?_ _)); exact BK132.out⟩, ⟨by (with_reducible repeat (first | refine blk_drewN ?_ _ | refine blk_drew ?_ | refine blk_alloc ?_ _)); exact BK133.out⟩, ⟨by repeat (first | (with_reducible first | exact HB.out | apply below_alloc | apply pw_below_drewN | apply below_drew1 | refine below_set ?_ GE132.out | refine below_set ?_ GE133.out) | exact HB.out)⟩⟩
                              · rw [if_neg c72] at H
                                have c72b0 : (a0 == 0) = false := beq_eq_false_iff_ne.mpr c72
                                have c72b1 : (a0 != 0) = true := bne_iff_ne.mpr c72
                                (first | rw [c72b0] | (simp only [i64_w, i32_w]; rw [c72b0]) | skip)
                                by_cases c73 : a0 = 14
                                · rw [if_pos c73] at H
                                  have c73b0 : (a0 == 14) = true := beq_iff_eq.mpr c73
                                  have c73b1 : (a0 != 14) = false := bne_eq_false_iff_eq.mpr c73
                                  clear c73
                                  have H' := Aside0.mk H
                                  clear H
                                  go_wp2
                                  go_meet
                                  case rel => exact ⟨_, ((a0 == 14)), (by first | rfl | (simp; done) | (simp [*]; done)), H', ⟨by have := HJ2.out; have := HJ12.out; have := HJ25.out; have := HJ56.out; first | omega | exact Nat.le_refl _⟩, ⟨by (with_reducible repeat (first | refine blk_drewN ?_ _ | refine blk_drew ?_ | refine blk_alloc ?_ _)); exact BK132.out⟩, ⟨by (with_reducible repeat (first | refine blk_drewN ?_ _ | refine blk_drew ?_ | refine blk_alloc ?_ _)); exact BK133.out⟩, ⟨by repeat (first | (with_reducible first | exact HB.out | apply below_alloc | apply pw_below_drewN | apply below_drew1 | refine below_set ?_ GE132.out | refine below_set ?_ GE133.out) | exact HB.out)⟩⟩
                                · rw [if_neg c73] at H
                                  have c73b0 : (a0 == 14) = false := beq_eq_false_iff_ne.mpr c73
                                  have c73b1 : (a0 != 14) = true := bne_iff_ne.mpr c73
                                  have H' := Aside0.mk H
                                  clear H
                                  go_wp2
                                  go_meet
                                  case rel => exact ⟨_, ((a0 == 15)), (by first | rfl | (simp; done) | (simp [*]; done)), H', ⟨by have := HJ2.out; have := HJ12.out; have := HJ25.out; have := HJ56.out; first | omega | exact Nat.le_refl _⟩, ⟨by (with_reducible repeat (first | refine blk_drewN ?_ _ | refine blk_drew ?_ | refine blk_alloc ?_ _)); exact BK132.out⟩, ⟨by (with_reducible repeat (first | refine blk_drewN ?_ _ | refine blk_drew ?_ | refine blk_alloc ?_ _)); exact BK133.out⟩, ⟨by repeat (first | (with_reducible first | exact HB.out | apply below_alloc | apply pw_below_drewN | apply below_drew1 | refine below_set ?_ GE132.out | refine below_set ?_ GE133.out) | exact HB.out)⟩⟩
                            case rest =>
                              clear HC71
                              try clear c1
                              try clear c2
                              try clear p2
                              try clear c3
                              try clear c4
                              try clear c4b0
                              try clear c5
                              try clear c5b0
                              try clear c6
                              try clear c6b0
                              try clear p6
                              try clear c7
                              try clear c7b0
                              try clear c8
                              try clear c10
                              try clear c15
                              try clear c18
                              try clear c22
                              try clear c25
                              try clear c30
                              try clear c32
                              try clear c32b0
                              try clear c32b1
                              try clear c33
                              try clear c35
                              try clear c37
                              try clear c42
                              try clear c45
                              try clear c45b0
                              try clear c45b1
                              try clear c47
                              try clear c49
                              try clear c58
                              try clear c58b0
                              try clear c58b1
                              try clear c59
                              try clear c61
                              try clear c63
                              try clear p64
                              try clear c72
                              try clear c72b0
                              try clear c72b1
                              try clear c73
                              try clear c73b0
                              try clear c73b1
                              try clear hcz28_0
                              try clear hcz28_1
                              try clear hcz28_2
                              try clear hcz28_3
                              try clear hcz31_0
                              try clear hcz31_1
                              try clear hcz31_2
                              try clear hcz31_3
                              try clear hcz38_0
                              try clear hcz38_1
                              try clear hcz38_2
                              try clear hcz38_3
                              try clear hcz40_0
                              try clear hcz40_1
                              try clear hcz40_2
                              try clear hcz40_3
                              try clear hcz43_0
                              try clear hcz43_1
                              try clear hcz43_2
                              try clear hcz43_3
                              try clear hfz28_0
                              try clear hfz28_1
                              try clear hfz28_2
                              try clear hfz28_3
                              try clear hfz31_0
                              try clear hfz31_1
                              try clear hfz31_2
                              try clear hfz31_3
                              try clear hfz38_0
                              try clear hfz38_1
                              try clear hfz38_2
                              try clear hfz38_3
                              try clear hfz40_0
                              try clear hfz40_1
                              try clear hfz40_2
                              try clear hfz40_3
                              try clear hfz43_0
                              try clear hfz43_1
                              try clear hfz43_2
                              try clear hfz43_3
                              try clear p2
                              try clear p6
                              obtain ⟨kq, x110_70, rfl, HA, HJ70, BK132, BK133, HB⟩ := hcut
                              cases kq with
                              | zero => exact absurd HA.out (by simp [flittinglaw20_VerifyEdges.j4])
                              | succ kj70 =>
                                have H := HA.out
                                clear HA
                                simp only [flittinglaw20_VerifyEdges.j4] at H
                                by_cases c74 : x110_70 = true
                                · subst c74
                                  have H1 : ((verify_One.f kj70 a0 0 0 0 a1).bind fun t142 => (if t142 = true then ((verify_One.f kj70 a0 1 0 0 a1).bind fun t143 => (if t143 = true then (some false) else ((verify_One.f kj70 a0 0 1 0 a1).bind fun t144 => (some (!t144))))) else (some false))) = some r := by rw [if_pos rfl] at H; exact H
                                  clear H
                                  have H := H1
                                  clear H1
                                  replace H := Option.bind_eq_some_iff.mp H
                                  obtain ⟨t142, A750, H⟩ := H
                                  replace H : (if t142 = true then ((verify_One.f kj70 a0 1 0 0 a1).bind fun t143 => (if t143 = true then (some false) else ((verify_One.f kj70 a0 0 1 0 a1).bind fun t144 => (some (!t144))))) else (some false)) = some r := H
                                  have A75 := Aside0.mk A750
                                  clear A750
                                  by_cases c76 : t142 = true
                                  · subst c76
                                    have H1 : ((verify_One.f kj70 a0 1 0 0 a1).bind fun t143 => (if t143 = true then (some false) else ((verify_One.f kj70 a0 0 1 0 a1).bind fun t144 => (some (!t144))))) = some r := by rw [if_pos rfl] at H; exact H
                                    clear H
                                    have H := H1
                                    clear H1
                                    replace H := Option.bind_eq_some_iff.mp H
                                    obtain ⟨t143, A770, H⟩ := H
                                    replace H : (if t143 = true then (some false) else ((verify_One.f kj70 a0 0 1 0 a1).bind fun t144 => (some (!t144)))) = some r := H
                                    have A77 := Aside0.mk A770
                                    clear A770
                                    by_cases c78 : t143 = true
                                    · subst c78
                                      have H1 : (some false) = some r := by rw [if_pos rfl] at H; exact H
                                      clear H
                                      have H := H1
                                      clear H1
                                      obtain rfl := Option.some.inj H
                                      go_wp2_with (first | ((with_reducible refine gate_callee (f := 22) rfl ?_); refine goesL_ (some 117) rfl rfl Try.func22 (by kernel_rfl) rfl #[.agg #[.int .i64 a0, .int .i64 0, .int .i64 0, .int .i64 0], .int .i64 a1] rfl (by (try simp only [List.map_toArray, List.map_cons, List.map_nil]); first | done | rfl | (simp only [List.length_drop, List.length_take]; rfl)) ?_; (with_reducible refine (verify_One.calls kj70 a0 0 0 0 a1 true _ A75.out).mono ?_); rintro e w79 ⟨rfl, hb⟩; refine ⟨_, rfl, ?_⟩; have n0_ := Aside0.mk (blk_below (g := gb132) (o := .cells #[.int .i64 a0, .int .i64 0, .int .i64 (Go.bits .and .i64 (wrap64 (a1 - 1)) 255), .int .i64 ((wrap64 (a1 - 1)) / 256)] 39 (0, 0)) (by (with_reducible repeat (first | refine blk_drewN ?_ _ | refine blk_drew ?_ | refine blk_alloc ?_ _)); exact BK132.out) hb); have n1_ := Aside0.mk (blk_below (g := gb133) (o := .cells #[.int .i64 a0, .int .i64 0, .int .i64 (Go.bits .and .i64 a1 255), .int .i64 (a1 / 256)] 39 (0, 0)) (by (with_reducible repeat (first | refine blk_drewN ?_ _ | refine blk_drew ?_ | refine blk_alloc ?_ _)); exact BK133.out) hb); have n2_ := Aside0.mk (below_step (by repeat (first | (with_reducible first | exact HB.out | apply below_alloc | apply pw_below_drewN | apply below_drew1 | refine below_set ?_ GE132.out | refine below_set ?_ GE133.out) | exact HB.out)) hb); clear BK132; clear BK133; clear HB; have BK132 := n0_; have BK133 := n1_; have HB := n2_; clear n0_ n1_ n2_; (try clear hb); (try clear hb2); (try clear hk); (try clear hi)) | (go_at_call 22; (with_reducible refine (verify_One.calls kj70 a0 1 0 0 a1 true _ A77.out).mono ?_); rintro e w80 ⟨rfl, hb⟩; have n0_ := Aside0.mk (blk_below (g := gb132) (o := .cells #[.int .i64 a0, .int .i64 0, .int .i64 (Go.bits .and .i64 (wrap64 (a1 - 1)) 255), .int .i64 ((wrap64 (a1 - 1)) / 256)] 39 (0, 0)) (by (with_reducible repeat (first | refine blk_drewN ?_ _ | refine blk_drew ?_ | refine blk_alloc ?_ _)); exact BK132.out) hb); have n1_ := Aside0.mk (blk_below (g := gb133) (o := .cells #[.int .i64 a0, .int .i64 0, .int .i64 (Go.bits .and .i64 a1 255), .int .i64 (a1 / 256)] 39 (0, 0)) (by (with_reducible repeat (first | refine blk_drewN ?_ _ | refine blk_drew ?_ | refine blk_alloc ?_ _)); exact BK133.out) hb); have n2_ := Aside0.mk (below_step (by repeat (first | (with_reducible first | exact HB.out | apply below_alloc | apply pw_below_drewN | apply below_drew1 | refine below_set ?_ GE132.out | refine below_set ?_ GE133.out) | exact HB.out)) hb); clear BK132; clear BK133; clear HB; have BK132 := n0_; have BK133 := n1_; have HB := n2_; clear n0_ n1_ n2_; (try clear hb); (try clear hb2); (try clear hk); (try clear hi)))
                                      go_ret
                                      exact ⟨by first | rfl | (simp [errW_none, errW_some] <;> rfl) | (simp [*, errW_none, errW_some] <;> rfl), by repeat (first | (with_reducible first | exact HB.out | apply below_alloc | apply pw_below_drewN | apply below_drew1 | refine below_set ?_ GE132.out | refine below_set ?_ GE133.out) | exact HB.out)⟩
                                    · replace c78 := Bool.eq_false_iff.mpr c78
                                      subst c78
                                      have H1 : ((verify_One.f kj70 a0 0 1 0 a1).bind fun t144 => (some (!t144))) = some r := by rw [if_neg (show ¬ (false = true) by decide)] at H; exact H
                                      clear H
                                      have H := H1
                                      clear H1
                                      replace H := Option.bind_eq_some_iff.mp H
                                      obtain ⟨t144, A810, H⟩ := H
                                      replace H : (some (!t144)) = some r := H
                                      have A81 := Aside0.mk A810
                                      clear A810
                                      obtain rfl := Option.some.inj H
                                      go_wp2_with (first | ((with_reducible refine gate_callee (f := 22) rfl ?_); refine goesL_ (some 117) rfl rfl Try.func22 (by kernel_rfl) rfl #[.agg #[.int .i64 a0, .int .i64 0, .int .i64 0, .int .i64 0], .int .i64 a1] rfl (by (try simp only [List.map_toArray, List.map_cons, List.map_nil]); first | done | rfl | (simp only [List.length_drop, List.length_take]; rfl)) ?_; (with_reducible refine (verify_One.calls kj70 a0 0 0 0 a1 true _ A75.out).mono ?_); rintro e w82 ⟨rfl, hb⟩; refine ⟨_, rfl, ?_⟩; have n0_ := Aside0.mk (blk_below (g := gb132) (o := .cells #[.int .i64 a0, .int .i64 0, .int .i64 (Go.bits .and .i64 (wrap64 (a1 - 1)) 255), .int .i64 ((wrap64 (a1 - 1)) / 256)] 39 (0, 0)) (by (with_reducible repeat (first | refine blk_drewN ?_ _ | refine blk_drew ?_ | refine blk_alloc ?_ _)); exact BK132.out) hb); have n1_ := Aside0.mk (blk_below (g := gb133) (o := .cells #[.int .i64 a0, .int .i64 0, .int .i64 (Go.bits .and .i64 a1 255), .int .i64 (a1 / 256)] 39 (0, 0)) (by (with_reducible repeat (first | refine blk_drewN ?_ _ | refine blk_drew ?_ | refine blk_alloc ?_ _)); exact BK133.out) hb); have n2_ := Aside0.mk (below_step (by repeat (first | (with_reducible first | exact HB.out | apply below_alloc | apply pw_below_drewN | apply below_drew1 | refine below_set ?_ GE132.out | refine below_set ?_ GE133.out) | exact HB.out)) hb); clear BK132; clear BK133; clear HB; have BK132 := n0_; have BK133 := n1_; have HB := n2_; clear n0_ n1_ n2_; (try clear hb); (try clear hb2); (try clear hk); (try clear hi)) | (go_at_call 22; (with_reducible refine (verify_One.calls kj70 a0 1 0 0 a1 false _ A77.out).mono ?_); rintro e w83 ⟨rfl, hb⟩; have n0_ := Aside0.mk (blk_below (g := gb132) (o := .cells #[.int .i64 a0, .int .i64 0, .int .i64 (Go.bits .and .i64 (wrap64 (a1 - 1)) 255), .int .i64 ((wrap64 (a1 - 1)) / 256)] 39 (0, 0)) (by (with_reducible repeat (first | refine blk_drewN ?_ _ | refine blk_drew ?_ | refine blk_alloc ?_ _)); exact BK132.out) hb); have n1_ := Aside0.mk (blk_below (g := gb133) (o := .cells #[.int .i64 a0, .int .i64 0, .int .i64 (Go.bits .and .i64 a1 255), .int .i64 (a1 / 256)] 39 (0, 0)) (by (with_reducible repeat (first | refine blk_drewN ?_ _ | refine blk_drew ?_ | refine blk_alloc ?_ _)); exact BK133.out) hb); have n2_ := Aside0.mk (below_step (by repeat (first | (with_reducible first | exact HB.out | apply below_alloc | apply pw_below_drewN | apply below_drew1 | refine below_set ?_ GE132.out | refine below_set ?_ GE133.out) | exact HB.out)) hb); clear BK132; clear BK133; clear HB; have BK132 := n0_; have BK133 := n1_; have HB := n2_; clear n0_ n1_ n2_; (try clear hb); (try clear hb2); (try clear hk); (try clear hi)) | (go_at_call 22; (with_reducible refine (verify_One.calls kj70 a0 0 1 0 a1 t144 _ A81.out).mono ?_); rintro e w84 ⟨rfl, hb⟩; have n0_ := Aside0.mk (blk_below (g := gb132) (o := .cells #[.int .i64 a0, .int .i64 0, .int .i64 (Go.bits .and .i64 (wrap64 (a1 - 1)) 255), .int .i64 ((wrap64 (a1 - 1)) / 256)] 39 (0, 0)) (by (with_reducible repeat (first | refine blk_drewN ?_ _ | refine blk_drew ?_ | refine blk_alloc ?_ _)); exact BK132.out) hb); have n1_ := Aside0.mk (blk_below (g := gb133) (o := .cells #[.int .i64 a0, .int .i64 0, .int .i64 (Go.bits .and .i64 a1 255), .int .i64 (a1 / 256)] 39 (0, 0)) (by (with_reducible repeat (first | refine blk_drewN ?_ _ | refine blk_drew ?_ | refine blk_alloc ?_ _)); exact BK133.out) hb); have n2_ := Aside0.mk (below_step (by repeat (first | (with_reducible first | exact HB.out | apply below_alloc | apply pw_below_drewN | apply below_drew1 | refine below_set ?_ GE132.out | refine below_set ?_ GE133.out) | exact HB.out)) hb); clear BK132; clear BK133; clear HB; have BK132 := n0_; have BK133 := n1_; have HB := n2_; clear n0_ n1_ n2_; (try clear hb); (try clear hb2); (try clear hk); (try clear hi)))
                                      go_ret
                                      exact ⟨by first | rfl | (simp [errW_none, errW_some] <;> rfl) | (simp [*, errW_none, errW_some] <;> rfl), by repeat (first | (with_reducible first | exact HB.out | apply below_alloc | apply pw_below_drewN | apply below_drew1 | refine below_set ?_ GE132.out | refine below_set ?_ GE133.out) | exact HB.out)⟩
                                  · replace c76 := Bool.eq_false_iff.mpr c76
                                    subst c76
                                    have H1 : (some false) = some r := by rw [if_neg (show ¬ (false = true) by decide)] at H; exact H
                                    clear H
                                    have H := H1
                                    clear H1
                                    obtain rfl := Option.some.inj H
                                    go_wp2_with (first | ((with_reducible refine gate_callee (f := 22) rfl ?_); refine goesL_ (some 117) rfl rfl Try.func22 (by kernel_rfl) rfl #[.agg #[.int .i64 a0, .int .i64 0, .int .i64 0, .int .i64 0], .int .i64 a1] rfl (by (try simp only [List.map_toArray, List.map_cons, List.map_nil]); first | done | rfl | (simp only [List.length_drop, List.length_take]; rfl)) ?_; (with_reducible refine (verify_One.calls kj70 a0 0 0 0 a1 false _ A75.out).mono ?_); rintro e w85 ⟨rfl, hb⟩; refine ⟨_, rfl, ?_⟩; have n0_ := Aside0.mk (blk_below (g := gb132) (o := .cells #[.int .i64 a0, .int .i64 0, .int .i64 (Go.bits .and .i64 (wrap64 (a1 - 1)) 255), .int .i64 ((wrap64 (a1 - 1)) / 256)] 39 (0, 0)) (by (with_reducible repeat (first | refine blk_drewN ?_ _ | refine blk_drew ?_ | refine blk_alloc ?_ _)); exact BK132.out) hb); have n1_ := Aside0.mk (blk_below (g := gb133) (o := .cells #[.int .i64 a0, .int .i64 0, .int .i64 (Go.bits .and .i64 a1 255), .int .i64 (a1 / 256)] 39 (0, 0)) (by (with_reducible repeat (first | refine blk_drewN ?_ _ | refine blk_drew ?_ | refine blk_alloc ?_ _)); exact BK133.out) hb); have n2_ := Aside0.mk (below_step (by repeat (first | (with_reducible first | exact HB.out | apply below_alloc | apply pw_below_drewN | apply below_drew1 | refine below_set ?_ GE132.out | refine below_set ?_ GE133.out) | exact HB.out)) hb); clear BK132; clear BK133; clear HB; have BK132 := n0_; have BK133 := n1_; have HB := n2_; clear n0_ n1_ n2_; (try clear hb); (try clear hb2); (try clear hk); (try clear hi)))
                                    go_ret
                                    exact ⟨by first | rfl | (simp [errW_none, errW_some] <;> rfl) | (simp [*, errW_none, errW_some] <;> rfl), by repeat (first | (with_reducible first | exact HB.out | apply below_alloc | apply pw_below_drewN | apply below_drew1 | refine below_set ?_ GE132.out | refine below_set ?_ GE133.out) | exact HB.out)⟩
                                · replace c74 := Bool.eq_false_iff.mpr c74
                                  subst c74
                                  have H1 : (if a0 = 1 then ((verify_One.f kj70 a0 3 255 255 a1).bind fun t145 => (some t145)) else (if a0 = 8 then (flittinglaw20_VerifyEdges.j5 kj70 a0 a1 (a0 == 8)) else (if a0 = 9 then (flittinglaw20_VerifyEdges.j5 kj70 a0 a1 (a0 == 9)) else (if a0 = 10 then (flittinglaw20_VerifyEdges.j5 kj70 a0 a1 (a0 == 10)) else (flittinglaw20_VerifyEdges.j5 kj70 a0 a1 (a0 == 11)))))) = some r := by rw [if_neg (show ¬ (false = true) by decide)] at H; exact H
                                  clear H
                                  have H := H1
                                  clear H1
                                  by_cases c86 : a0 = 1
                                  · rw [if_pos c86] at H
                                    have c86b0 : (a0 == 1) = true := beq_iff_eq.mpr c86
                                    have c86b1 : (a0 != 1) = false := bne_eq_false_iff_eq.mpr c86
                                    clear c86
                                    replace H := Option.bind_eq_some_iff.mp H
                                    obtain ⟨t145, A870, H⟩ := H
                                    replace H : (some t145) = some r := H
                                    have A87 := Aside0.mk A870
                                    clear A870
                                    obtain rfl := Option.some.inj H
                                    go_wp2_with (first | ((with_reducible refine gate_callee (f := 22) rfl ?_); refine goesL_ (some 137) rfl rfl Try.func22 (by kernel_rfl) rfl #[.agg #[.int .i64 a0, .int .i64 3, .int .i64 255, .int .i64 255], .int .i64 a1] rfl (by (try simp only [List.map_toArray, List.map_cons, List.map_nil]); first | done | rfl | (simp only [List.length_drop, List.length_take]; rfl)) ?_; (with_reducible refine (verify_One.calls kj70 a0 3 255 255 a1 t145 _ A87.out).mono ?_); rintro e w88 ⟨rfl, hb⟩; refine ⟨_, rfl, ?_⟩; have n0_ := Aside0.mk (blk_below (g := gb132) (o := .cells #[.int .i64 a0, .int .i64 0, .int .i64 (Go.bits .and .i64 (wrap64 (a1 - 1)) 255), .int .i64 ((wrap64 (a1 - 1)) / 256)] 39 (0, 0)) (by (with_reducible repeat (first | refine blk_drewN ?_ _ | refine blk_drew ?_ | refine blk_alloc ?_ _)); exact BK132.out) hb); have n1_ := Aside0.mk (blk_below (g := gb133) (o := .cells #[.int .i64 a0, .int .i64 0, .int .i64 (Go.bits .and .i64 a1 255), .int .i64 (a1 / 256)] 39 (0, 0)) (by (with_reducible repeat (first | refine blk_drewN ?_ _ | refine blk_drew ?_ | refine blk_alloc ?_ _)); exact BK133.out) hb); have n2_ := Aside0.mk (below_step (by repeat (first | (with_reducible first | exact HB.out | apply below_alloc | apply pw_below_drewN | apply below_drew1 | refine below_set ?_ GE132.out | refine below_set ?_ GE133.out) | exact HB.out)) hb); clear BK132; clear BK133; clear HB; have BK132 := n0_; have BK133 := n1_; have HB := n2_; clear n0_ n1_ n2_; (try clear hb); (try clear hb2); (try clear hk); (try clear hi)))
                                    go_ret
                                    exact ⟨by first | rfl | (simp [errW_none, errW_some] <;> rfl) | (simp [*, errW_none, errW_some] <;> rfl), by repeat (first | (with_reducible first | exact HB.out | apply below_alloc | apply pw_below_drewN | apply below_drew1 | refine below_set ?_ GE132.out | refine below_set ?_ GE133.out) | exact HB.out)⟩
                                  · rw [if_neg c86] at H
                                    have c86b0 : (a0 == 1) = false := beq_eq_false_iff_ne.mpr c86
                                    have c86b1 : (a0 != 1) = true := bne_iff_ne.mpr c86
                                    have HC89 := Aside0.mk H
                                    clear H
                                    go_upto_if 138 with (fail)
                                    go_cut [138] (fun v138 wc => ∃ (kq : Nat) (x138_88 : Bool), v138 = .bool x138_88 ∧ Aside0 (flittinglaw20_VerifyEdges.j5 kq a0 a1 x138_88 = some r) ∧ Aside0 (kq ≤ kj70) ∧ Aside0 (wc.heap[gb132]? = some (.cells #[.int .i64 a0, .int .i64 0, .int .i64 (Go.bits .and .i64 (wrap64 (a1 - 1)) 255), .int .i64 ((wrap64 (a1 - 1)) / 256)] 39 (0, 0))) ∧ Aside0 (wc.heap[gb133]? = some (.cells #[.int .i64 a0, .int .i64 0, .int .i64 (Go.bits .and .i64 a1 255), .int .i64 (a1 / 256)] 39 (0, 0))) ∧ Aside0 (Below w.heap.size w wc))
                                    case first =>
                                      have H := HC89.out
                                      clear HC89
                                      by_cases c90 : a0 = 8
                                      · rw [if_pos c90] at H
                                        have c90b0 : (a0 == 8) = true := beq_iff_eq.mpr c90
                                        have c90b1 : (a0 != 8) = false := bne_eq_false_iff_eq.mpr c90
                                        clear c90
                                        (first | rw [c90b0] | (simp only [i64_w, i32_w]; rw [c90b0]) | skip)
                                        have H' := Aside0.mk H
                                        clear H
                                        go_wp2
                                        go_meet
                                        case rel => exact ⟨_, ((a0 == 8)), (by first | rfl | (simp; done) | (simp [*]; done)), H', ⟨by have := HJ2.out; have := HJ12.out; have := HJ25.out; have := HJ56.out; have := HJ70.out; first | omega | exact Nat.le_refl _⟩, ⟨by (with_reducible repeat (first | refine blk_drewN ?_ _ | refine blk_drew ?_ | refine blk_alloc ?_ _)); exact BK132.out⟩, ⟨by (with_reducible repeat (first | refine blk_drewN ?_ _ | refine blk_drew ?_ | refine blk_alloc ?_ _)); exact BK133.out⟩, ⟨by repeat (first | (with_reducible first | exact HB.out | apply below_alloc | apply pw_below_drewN | apply below_drew1 | refine below_set ?_ GE132.out | refine below_set ?_ GE133.out) | exact HB.out)⟩⟩
                                      · rw [if_neg c90] at H
                                        have c90b0 : (a0 == 8) = false := beq_eq_false_iff_ne.mpr c90
                                        have c90b1 : (a0 != 8) = true := bne_iff_ne.mpr c90
                                        (first | rw [c90b0] | (simp only [i64_w, i32_w]; rw [c90b0]) | skip)
                                        by_cases c91 : a0 = 9
                                        · rw [if_pos c91] at H
                                          have c91b0 : (a0 == 9) = true := beq_iff_eq.mpr c91
                                          have c91b1 : (a0 != 9) = false := bne_eq_false_iff_eq.mpr c91
                                          clear c91
                                          have H' := Aside0.mk H
                                          clear H
                                          go_wp2
                                          go_meet
                                          case rel => exact ⟨_, ((a0 == 9)), (by first | rfl | (simp; done) | (simp [*]; done)), H', ⟨by have := HJ2.out; have := HJ12.out; have := HJ25.out; have := HJ56.out; have := HJ70.out; first | omega | exact Nat.le_refl _⟩, ⟨by (with_reducible repeat (first | refine blk_drewN ?_ _ | refine blk_drew ?_ | refine blk_alloc ?_ _)); exact BK132.out⟩, ⟨by (with_reducible repeat (first | refine blk_drewN ?_ _ | refine blk_drew ?_ | refine blk_alloc ?_ _)); exact BK133.out⟩, ⟨by repeat (first | (with_reducible first | exact HB.out | apply below_alloc | apply pw_below_drewN | apply below_drew1 | refine below_set ?_ GE132.out | refine below_set ?_ GE133.out) | exact HB.out)⟩⟩
                                        · rw [if_neg c91] at H
                                          have c91b0 : (a0 == 9) = false := beq_eq_false_iff_ne.mpr c91
                                          have c91b1 : (a0 != 9) = true := bne_iff_ne.mpr c91
                                          by_cases c92 : a0 = 10
                                          · rw [if_pos c92] at H
                                            have c92b0 : (a0 == 10) = true := beq_iff_eq.mpr c92
                                            have c92b1 : (a0 != 10) = false := bne_eq_false_iff_eq.mpr c92
                                            clear c92
                                            have H' := Aside0.mk H
                                            clear H
                                            go_wp2
                                            go_meet
                                            case rel => exact ⟨_, ((a0 == 10)), (by first | rfl | (simp; done) | (simp [*]; done)), H', ⟨by have := HJ2.out; have := HJ12.out; have := HJ25.out; have := HJ56.out; have := HJ70.out; first | omega | exact Nat.le_refl _⟩, ⟨by (with_reducible repeat (first | refine blk_drewN ?_ _ | refine blk_drew ?_ | refine blk_alloc ?_ _)); exact BK132.out⟩, ⟨by (with_reducible repeat (first | refine blk_drewN ?_ _ | refine blk_drew ?_ | refine blk_alloc ?_ _)); exact BK133.out⟩, ⟨by repeat (first | (with_reducible first | exact HB.out | apply below_alloc | apply pw_below_drewN | apply below_drew1 | refine below_set ?_ GE132.out | refine below_set ?_ GE133.out) | exact HB.out)⟩⟩
                                          · rw [if_neg c92] at H
                                            have c92b0 : (a0 == 10) = false := beq_eq_false_iff_ne.mpr c92
                                            have c92b1 : (a0 != 10) = true := bne_iff_ne.mpr c92
                                            have H' := Aside0.mk H
                                            clear H
                                            go_wp2
                                            go_meet
                                            case rel => exact ⟨_, ((a0 == 11)), (by first | rfl | (simp; done) | (simp [*]; done)), H', ⟨by have := HJ2.out; have := HJ12.out; have := HJ25.out; have := HJ56.out; have := HJ70.out; first | omega | exact Nat.le_refl _⟩, ⟨by (with_reducible repeat (first | refine blk_drewN ?_ _ | refine blk_drew ?_ | refine blk_alloc ?_ _)); exact BK132.out⟩, ⟨by (with_reducible repeat (first | refine blk_drewN ?_ _ | refine blk_drew ?_ | refine blk_alloc ?_ _)); exact BK133.out⟩, ⟨by repeat (first | (with_reducible first | exact HB.out | apply below_alloc | apply pw_below_drewN | apply below_drew1 | refine below_set ?_ GE132.out | refine below_set ?_ GE133.out) | exact HB.out)⟩⟩
                                    case rest =>
                                      clear HC89
                                      try clear c1
                                      try clear c2
                                      try clear p2
                                      try clear c3
                                      try clear c4
                                      try clear c4b0
                                      try clear c5
                                      try clear c5b0
                                      try clear c6
                                      try clear c6b0
                                      try clear p6
                                      try clear c7
                                      try clear c7b0
                                      try clear c8
                                      try clear c9
                                      try clear c10
                                      try clear c15
                                      try clear c18
                                      try clear c22
                                      try clear c25
                                      try clear c30
                                      try clear c32
                                      try clear c32b0
                                      try clear c32b1
                                      try clear c33
                                      try clear c35
                                      try clear c37
                                      try clear c42
                                      try clear c45
                                      try clear c45b0
                                      try clear c45b1
                                      try clear c47
                                      try clear c49
                                      try clear c58
                                      try clear c58b0
                                      try clear c58b1
                                      try clear c59
                                      try clear c61
                                      try clear c63
                                      try clear p64
                                      try clear c72
                                      try clear c72b0
                                      try clear c72b1
                                      try clear c73
                                      try clear c73b0
                                      try clear c73b1
                                      try clear c74
                                      try clear c76
                                      try clear c78
                                      try clear c86
                                      try clear c86b0
                                      try clear c86b1
                                      try clear c90
                                      try clear c90b0
                                      try clear c90b1
                                      try clear c91
                                      try clear c91b0
                                      try clear c91b1
                                      try clear c92
                                      try clear c92b0
                                      try clear c92b1
                                      try clear hcz28_0
                                      try clear hcz28_1
                                      try clear hcz28_2
                                      try clear hcz28_3
                                      try clear hcz31_0
                                      try clear hcz31_1
                                      try clear hcz31_2
                                      try clear hcz31_3
                                      try clear hcz38_0
                                      try clear hcz38_1
                                      try clear hcz38_2
                                      try clear hcz38_3
                                      try clear hcz40_0
                                      try clear hcz40_1
                                      try clear hcz40_2
                                      try clear hcz40_3
                                      try clear hcz43_0
                                      try clear hcz43_1
                                      try clear hcz43_2
                                      try clear hcz43_3
                                      try clear hfz28_0
                                      try clear hfz28_1
                                      try clear hfz28_2
                                      try clear hfz28_3
                                      try clear hfz31_0
                                      try clear hfz31_1
                                      try clear hfz31_2
                                      try clear hfz31_3
                                      try clear hfz38_0
                                      try clear hfz38_1
                                      try clear hfz38_2
                                      try clear hfz38_3
                                      try clear hfz40_0
                                      try clear hfz40_1
                                      try clear hfz40_2
                                      try clear hfz40_3
                                      try clear hfz43_0
                                      try clear hfz43_1
                                      try clear hfz43_2
                                      try clear hfz43_3
                                      try clear p2
                                      try clear p6
                                      try clear p64
                                      obtain ⟨kq, x138_88, rfl, HA, HJ88, BK132, BK133, HB⟩ := hcut
                                      cases kq with
                                      | zero => exact absurd HA.out (by simp [flittinglaw20_VerifyEdges.j5])
                                      | succ kj88 =>
                                        have H := HA.out
                                        clear HA
                                        simp only [flittinglaw20_VerifyEdges.j5] at H
                                        by_cases c93 : x138_88 = true
                                        · subst c93
                                          have H1 : ((verify_One.f kj88 a0 3 3 255 a1).bind fun t146 => (if t146 = true then ((verify_One.f kj88 a0 0 4 0 a1).bind fun t147 => (some (!t147))) else (some false))) = some r := by rw [if_pos rfl] at H; exact H
                                          clear H
                                          have H := H1
                                          clear H1
                                          replace H := Option.bind_eq_some_iff.mp H
                                          obtain ⟨t146, A940, H⟩ := H
                                          replace H : (if t146 = true then ((verify_One.f kj88 a0 0 4 0 a1).bind fun t147 => (some (!t147))) else (some false)) = some r := H
                                          have A94 := Aside0.mk A940
                                          clear A940
                                          by_cases c95 : t146 = true
                                          · subst c95
                                            have H1 : ((verify_One.f kj88 a0 0 4 0 a1).bind fun t147 => (some (!t147))) = some r := by rw [if_pos rfl] at H; exact H
                                            clear H
                                            have H := H1
                                            clear H1
                                            replace H := Option.bind_eq_some_iff.mp H
                                            obtain ⟨t147, A960, H⟩ := H
                                            replace H : (some (!t147)) = some r := H
                                            have A96 := Aside0.mk A960
                                            clear A960
                                            obtain rfl := Option.some.inj H
                                            go_wp2_with (first | ((with_reducible refine gate_callee (f := 22) rfl ?_); refine goesL_ (some 146) rfl rfl Try.func22 (by kernel_rfl) rfl #[.agg #[.int .i64 a0, .int .i64 3, .int .i64 3, .int .i64 255], .int .i64 a1] rfl (by (try simp only [List.map_toArray, List.map_cons, List.map_nil]); first | done | rfl | (simp only [List.length_drop, List.length_take]; rfl)) ?_; (with_reducible refine (verify_One.calls kj88 a0 3 3 255 a1 true _ A94.out).mono ?_); rintro e w97 ⟨rfl, hb⟩; refine ⟨_, rfl, ?_⟩; have n0_ := Aside0.mk (blk_below (g := gb132) (o := .cells #[.int .i64 a0, .int .i64 0, .int .i64 (Go.bits .and .i64 (wrap64 (a1 - 1)) 255), .int .i64 ((wrap64 (a1 - 1)) / 256)] 39 (0, 0)) (by (with_reducible repeat (first | refine blk_drewN ?_ _ | refine blk_drew ?_ | refine blk_alloc ?_ _)); exact BK132.out) hb); have n1_ := Aside0.mk (blk_below (g := gb133) (o := .cells #[.int .i64 a0, .int .i64 0, .int .i64 (Go.bits .and .i64 a1 255), .int .i64 (a1 / 256)] 39 (0, 0)) (by (with_reducible repeat (first | refine blk_drewN ?_ _ | refine blk_drew ?_ | refine blk_alloc ?_ _)); exact BK133.out) hb); have n2_ := Aside0.mk (below_step (by repeat (first | (with_reducible first | exact HB.out | apply below_alloc | apply pw_below_drewN | apply below_drew1 | refine below_set ?_ GE132.out | refine below_set ?_ GE133.out) | exact HB.out)) hb); clear BK132; clear BK133; clear HB; have BK132 := n0_; have BK133 := n1_; have HB := n2_; clear n0_ n1_ n2_; (try clear hb); (try clear hb2); (try clear hk); (try clear hi)) | (go_at_call 22; (with_reducible refine (verify_One.calls kj88 a0 0 4 0 a1 t147 _ A96.out).mono ?_); rintro e w98 ⟨rfl, hb⟩; have n0_ := Aside0.mk (blk_below (g := gb132) (o := .cells #[.int .i64 a0, .int .i64 0, .int .i64 (Go.bits .and .i64 (wrap64 (a1 - 1)) 255), .int .i64 ((wrap64 (a1 - 1)) / 256)] 39 (0, 0)) (by (with_reducible repeat (first | refine blk_drewN ?_ _ | refine blk_drew ?_ | refine blk_alloc ?_ _)); exact BK132.out) hb); have n1_ := Aside0.mk (blk_below (g := gb133) (o := .cells #[.int .i64 a0, .int .i64 0, .int .i64 (Go.bits .and .i64 a1 255), .int .i64 (a1 / 256)] 39 (0, 0)) (by (with_reducible repeat (first | refine blk_drewN ?_ _ | refine blk_drew ?_ | refine blk_alloc ?_ _)); exact BK133.out) hb); have n2_ := Aside0.mk (below_step (by repeat (first | (with_reducible first | exact HB.out | apply below_alloc | apply pw_below_drewN | apply below_drew1 | refine below_set ?_ GE132.out | refine below_set ?_ GE133.out) | exact HB.out)) hb); clear BK132; clear BK133; clear HB; have BK132 := n0_; have BK133 := n1_; have HB := n2_; clear n0_ n1_ n2_; (try clear hb); (try clear hb2); (try clear hk); (try clear hi)))
                                            go_ret
                                            exact ⟨by first | rfl | (simp [errW_none, errW_some] <;> rfl) | (simp [*, errW_none, errW_some] <;> rfl), by repeat (first | (with_reducible first | exact HB.out | apply below_alloc | apply pw_below_drewN | apply below_drew1 | refine below_set ?_ GE132.out | refine below_set ?_ GE133.out) | exact HB.out)⟩
                                          · replace c95 := Bool.eq_false_iff.mpr c95
                                            subst c95
                                            have H1 : (some false) = some r := by rw [if_neg (show ¬ (false = true) by decide)] at H; exact H
                                            clear H
                                            have H := H1
                                            clear H1
                                            obtain rfl := Option.some.inj H
                                            go_wp2_with (first | ((with_reducible refine gate_callee (f := 22) rfl ?_); refine goesL_ (some 146) rfl rfl Try.func22 (by kernel_rfl) rfl #[.agg #[.int .i64 a0, .int .i64 3, .int .i64 3, .int .i64 255], .int .i64 a1] rfl (by (try simp only [List.map_toArray, List.map_cons, List.map_nil]); first | done | rfl | (simp only [List.length_drop, List.length_take]; rfl)) ?_; (with_reducible refine (verify_One.calls kj88 a0 3 3 255 a1 false _ A94.out).mono ?_); rintro e w99 ⟨rfl, hb⟩; refine ⟨_, rfl, ?_⟩; have n0_ := Aside0.mk (blk_below (g := gb132) (o := .cells #[.int .i64 a0, .int .i64 0, .int .i64 (Go.bits .and .i64 (wrap64 (a1 - 1)) 255), .int .i64 ((wrap64 (a1 - 1)) / 256)] 39 (0, 0)) (by (with_reducible repeat (first | refine blk_drewN ?_ _ | refine blk_drew ?_ | refine blk_alloc ?_ _)); exact BK132.out) hb); have n1_ := Aside0.mk (blk_below (g := gb133) (o := .cells #[.int .i64 a0, .int .i64 0, .int .i64 (Go.bits .and .i64 a1 255), .int .i64 (a1 / 256)] 39 (0, 0)) (by (with_reducible repeat (first | refine blk_drewN ?_ _ | refine blk_drew ?_ | refine blk_alloc ?_ _)); exact BK133.out) hb); have n2_ := Aside0.mk (below_step (by repeat (first | (with_reducible first | exact HB.out | apply below_alloc | apply pw_below_drewN | apply below_drew1 | refine below_set ?_ GE132.out | refine below_set ?_ GE133.out) | exact HB.out)) hb); clear BK132; clear BK133; clear HB; have BK132 := n0_; have BK133 := n1_; have HB := n2_; clear n0_ n1_ n2_; (try clear hb); (try clear hb2); (try clear hk); (try clear hi)))
                                            go_ret
                                            exact ⟨by first | rfl | (simp [errW_none, errW_some] <;> rfl) | (simp [*, errW_none, errW_some] <;> rfl), by repeat (first | (with_reducible first | exact HB.out | apply below_alloc | apply pw_below_drewN | apply below_drew1 | refine below_set ?_ GE132.out | refine below_set ?_ GE133.out) | exact HB.out)⟩
                                        · replace c93 := Bool.eq_false_iff.mpr c93
                                          subst c93
                                          have H1 : ((verify_One.f kj88 a0 0 0 0 a1).bind fun t148 => (some t148)) = some r := by rw [if_neg (show ¬ (false = true) by decide)] at H; exact H
                                          clear H
                                          have H := H1
                                          clear H1
                                          replace H := Option.bind_eq_some_iff.mp H
                                          obtain ⟨t148, A1000, H⟩ := H
                                          replace H : (some t148) = some r := H
                                          have A100 := Aside0.mk A1000
                                          clear A1000
                                          obtain rfl := Option.some.inj H
                                          go_wp2_with (first | ((with_reducible refine gate_callee (f := 22) rfl ?_); refine goesL_ (some 157) rfl rfl Try.func22 (by kernel_rfl) rfl #[.agg #[.int .i64 a0, .int .i64 0, .int .i64 0, .int .i64 0], .int .i64 a1] rfl (by (try simp only [List.map_toArray, List.map_cons, List.map_nil]); first | done | rfl | (simp only [List.length_drop, List.length_take]; rfl)) ?_; (with_reducible refine (verify_One.calls kj88 a0 0 0 0 a1 t148 _ A100.out).mono ?_); rintro e w101 ⟨rfl, hb⟩; refine ⟨_, rfl, ?_⟩; have n0_ := Aside0.mk (blk_below (g := gb132) (o := .cells #[.int .i64 a0, .int .i64 0, .int .i64 (Go.bits .and .i64 (wrap64 (a1 - 1)) 255), .int .i64 ((wrap64 (a1 - 1)) / 256)] 39 (0, 0)) (by (with_reducible repeat (first | refine blk_drewN ?_ _ | refine blk_drew ?_ | refine blk_alloc ?_ _)); exact BK132.out) hb); have n1_ := Aside0.mk (blk_below (g := gb133) (o := .cells #[.int .i64 a0, .int .i64 0, .int .i64 (Go.bits .and .i64 a1 255), .int .i64 (a1 / 256)] 39 (0, 0)) (by (with_reducible repeat (first | refine blk_drewN ?_ _ | refine blk_drew ?_ | refine blk_alloc ?_ _)); exact BK133.out) hb); have n2_ := Aside0.mk (below_step (by repeat (first | (with_reducible first | exact HB.out | apply below_alloc | apply pw_below_drewN | apply below_drew1 | refine below_set ?_ GE132.out | refine below_set ?_ GE133.out) | exact HB.out)) hb); clear BK132; clear BK133; clear HB; have BK132 := n0_; have BK133 := n1_; have HB := n2_; clear n0_ n1_ n2_; (try clear hb); (try clear hb2); (try clear hk); (try clear hi)))
                                          go_ret
                                          exact ⟨by first | rfl | (simp [errW_none, errW_some] <;> rfl) | (simp [*, errW_none, errW_some] <;> rfl), by repeat (first | (with_reducible first | exact HB.out | apply below_alloc | apply pw_below_drewN | apply below_drew1 | refine below_set ?_ GE132.out | refine below_set ?_ GE133.out) | exact HB.out)⟩

/-- THE ONE PURE STATEMENT of flittinglaw20_VerifyEdges: yours. -/
def flittinglaw20_VerifyEdges.Pure : Prop := ∀ (a0 : Int) (a1 : Int), (Lit.int .i64 a0).wf = true → (Lit.int .i64 a1).wf = true → ∃ k, flittinglaw20_VerifyEdges.f k a0 a1 = some true
theorem flittinglaw20_VerifyEdges.walk (P : flittinglaw20_VerifyEdges.Pure) (a0 : Int) (a1 : Int) (w : World) (w0 : (Lit.int .i64 a0).wf = true) (w1 : (Lit.int .i64 a1).wf = true) :
    Calls Try.prog 8 #[.int .i64 a0, .int .i64 a1] w fun e w' => e = .returned (.bool true) ∧ Below w.heap.size w w' := by
  obtain ⟨k, h⟩ := P a0 a1 w0 w1
  refine (flittinglaw20_VerifyEdges.calls k a0 a1 true w h).mono ?_
  rintro e w' ⟨rfl, hd⟩
  exact ⟨rfl, hd⟩

end Go.Proofs.Ytdlapjfcmhkieaa.PVerifyEdges
