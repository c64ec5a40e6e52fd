-- PRINTED BY print.sh 35421559b90ae4d0a3588c463048766b98c2df88dd9212a6774a882060cdf62d: not written by this session
import Derived.Test.YtdlapjfcmhkieaaPObjectSizesx0
namespace Go.Proofs.Ytdlapjfcmhkieaa.PObjectSizes
open Go.RowKit Go.Proofs.YtdlapjfcmhkieaaW.PrintWords Go.Proofs.YtdlapjfcmhkieaaW.PrintLast Go.Proofs.YtdlapjfcmhkieaaW.PrintMore
attribute [local go_sem] max2_int min2_int max_two min_two max_three min_three max_four min_four   -- for this text's walks alone
set_option linter.unusedVariables false
set_option linter.unusedSimpArgs false

/-! ### object_Header: function 9 -/
def object_Header.j0 : Nat → Int → Int → Bool → Option (Int × Bool)
  | 0, _, _, _ => none
  | k + 1, x0, x1, x6 => if x6 = true then (some (0, false)) else (if x1 < 0 then (some (0, false)) else (if x1 > 30 then (some (0, false)) else (some (wrap64 ((wrap64 (16777216 + (wrap64 (256 * x0)))) + x1), true))))
def object_Header.f (k : Nat) (a0 : Int) (a1 : Int) : Option (Int × Bool) := if a0 < 0 then (object_Header.j0 k a0 a1 true) else (object_Header.j0 k a0 a1 (decide (a0 > 15)))
theorem object_Header.mono_l : ∀ k, (∀ y0 y1 y2, LeO (object_Header.j0 k y0 y1 y2) (object_Header.j0 (k + 1) y0 y1 y2))
  | 0 => fun _ _ _ r h => by simp [object_Header.j0] at h
  | k + 1 => by
    have ih0 := object_Header.mono_l k
    · intro y0 y1 y2
      unfold object_Header.j0
      repeat' first
      | (with_reducible exact ih0 _ _ _)
      | (with_reducible exact LeO.refl _)
      | (with_reducible exact LeO.none _)
      | (with_reducible refine LeO.ite ?_ ?_)
      | (with_reducible refine LeO.bind ?_ (fun _ => ?_))
      | exact ih0 _ _ _
      | exact LeO.none _
      | refine LeO.ite ?_ ?_
      | refine LeO.bind ?_ (fun _ => ?_)
theorem object_Header.mono : ∀ a0 a1 k, LeO (object_Header.f k a0 a1) (object_Header.f (k + 1) a0 a1) := by
  intro a0 a1 k
  have ih0 := object_Header.mono_l k
  unfold object_Header.f
  repeat' first
      | (with_reducible exact ih0 _ _ _)
      | (with_reducible exact LeO.refl _)
      | (with_reducible exact LeO.none _)
      | (with_reducible refine LeO.ite ?_ ?_)
      | (with_reducible refine LeO.bind ?_ (fun _ => ?_))
      | exact ih0 _ _ _
      | exact LeO.none _
      | refine LeO.ite ?_ ?_
      | refine LeO.bind ?_ (fun _ => ?_)
set_option maxHeartbeats 8000000 in
set_option maxRecDepth 100000 in
theorem object_Header.calls (k : Nat) (a0 : Int) (a1 : Int) (r1 : Int) (r2 : Bool) (w : World) (h : object_Header.f k a0 a1 = some (r1, r2)) :
    Calls Try.prog 9 #[.int .i64 a0, .int .i64 a1] w fun e w' => e = .returned (.tuple #[.int .i64 r1, .bool r2]) ∧ Drawn0 w w' := by
  have H : (if a0 < 0 then (object_Header.j0 k a0 a1 true) else (object_Header.j0 k a0 a1 (decide (a0 > 15)))) = some (r1, r2) := h
  clear h
  have HC3 := Aside0.mk H
  clear H
  go_enter Try.func9, Try.ntmps9
  go_upto_region 1 with (fail)
  go_cut [6] (fun v6 wc => ∃ (kq : Nat) (x6_2 : Bool), v6 = .bool x6_2 ∧ Aside0 (object_Header.j0 kq a0 a1 x6_2 = some (r1, r2)) ∧ Aside0 (kq ≤ k) ∧ Drawn0 w wc)
  case first =>
    have H := HC3.out
    clear HC3
    by_cases c4 : a0 < 0
    · rw [if_pos c4] at H
      have c4b0 : decide (a0 < 0) = true := decide_eq_true c4
      clear c4
      (first | rw [c4b0] | (simp only [i64_w, i32_w]; rw [c4b0]) | skip)
      have H' := Aside0.mk H
      clear H
      go_wp2
      go_meet
      case rel => exact ⟨_, (true), (by first | rfl | (simp; done) | (simp [*]; done)), H', ⟨by first | omega | exact Nat.le_refl _⟩, by repeat (first | exact Drawn0.refl _ | apply Drawn0.step)⟩
    · rw [if_neg c4] at H
      have c4b0 : decide (a0 < 0) = false := decide_eq_false c4
      clear c4
      (first | rw [c4b0] | (simp only [i64_w, i32_w]; rw [c4b0]) | skip)
      have H' := Aside0.mk H
      clear H
      go_wp2
      go_meet
      case rel => exact ⟨_, (decide (a0 > 15)), (by first | rfl | (simp; done) | (simp [*]; done)), H', ⟨by first | omega | exact Nat.le_refl _⟩, by repeat (first | exact Drawn0.refl _ | apply Drawn0.step)⟩
  case rest =>
    clear HC3
    try clear p2
    try clear c4
    try clear c4b0
    obtain ⟨kq, x6_2, rfl, HA, HJ2, ⟨mc2, rfl⟩⟩ := hcut
    cases kq with
    | zero => exact absurd HA.out (by simp [object_Header.j0])
    | succ kj2 =>
      have H := HA.out
      clear HA
      simp only [object_Header.j0] at H
      by_cases c5 : x6_2 = true
      · subst c5
        have H1 : (some (0, false)) = some (r1, r2) := by rw [if_pos rfl] at H; exact H
        clear H
        have H := H1
        clear H1
        simp only [Option.some.injEq, Prod.mk.injEq] at H
        obtain ⟨rfl, rfl⟩ := H
        go_wp2
        go_ret2
        exact ⟨by first | rfl | (simp; done) | (simp [*]; done), by repeat (first | exact Drawn0.refl _ | apply Drawn0.step)⟩
      · replace c5 := Bool.eq_false_iff.mpr c5
        subst c5
        have H1 : (if a1 < 0 then (some (0, false)) else (if a1 > 30 then (some (0, false)) else (some (wrap64 ((wrap64 (16777216 + (wrap64 (256 * a0)))) + a1), true)))) = some (r1, r2) := by rw [if_neg (show ¬ (false = true) by decide)] at H; exact H
        clear H
        have H := H1
        clear H1
        by_cases c6 : a1 < 0
        · rw [if_pos c6] at H
          have c6b0 : decide (a1 < 0) = true := decide_eq_true c6
          clear c6
          simp only [Option.some.injEq, Prod.mk.injEq] at H
          obtain ⟨rfl, rfl⟩ := H
          go_wp2
          go_ret2
          exact ⟨by first | rfl | (simp; done) | (simp [*]; done), by repeat (first | exact Drawn0.refl _ | apply Drawn0.step)⟩
        · rw [if_neg c6] at H
          have c6b0 : decide (a1 < 0) = false := decide_eq_false c6
          clear c6
          by_cases c7 : a1 > 30
          · rw [if_pos c7] at H
            have c7b0 : decide (30 < a1) = true := decide_eq_true c7
            clear c7
            simp only [Option.some.injEq, Prod.mk.injEq] at H
            obtain ⟨rfl, rfl⟩ := H
            go_wp2
            go_ret2
            exact ⟨by first | rfl | (simp; done) | (simp [*]; done), by repeat (first | exact Drawn0.refl _ | apply Drawn0.step)⟩
          · rw [if_neg c7] at H
            have c7b0 : decide (30 < a1) = false := decide_eq_false c7
            clear c7
            simp only [Option.some.injEq, Prod.mk.injEq] at H
            obtain ⟨rfl, rfl⟩ := H
            go_wp2
            go_ret2
            exact ⟨by first | rfl | (simp; done) | (simp [*]; done), by repeat (first | exact Drawn0.refl _ | apply Drawn0.step)⟩

/-! ### object_Parse: function 11 -/
def object_Parse.f (k : Nat) (a0 : Int) : Option (Int × Int × Bool) := if a0 < 16777216 then (some (0, 0, false)) else ((object_Header.f k (wrap64 (Int.tdiv (wrap64 (a0 - 16777216)) 256)) (Int.tmod (wrap64 (a0 - 16777216)) 256)).bind fun bt101 => (if bt101.2 = true then (some (wrap64 (Int.tdiv (wrap64 (a0 - 16777216)) 256), Int.tmod (wrap64 (a0 - 16777216)) 256, true)) else (some (0, 0, false))))
theorem object_Parse.mono : ∀ a0 k, LeO (object_Parse.f k a0) (object_Parse.f (k + 1) a0) := by
  intro a0 k
  unfold object_Parse.f
  repeat' first
      | (with_reducible exact object_Header.mono _ _ _)
      | (with_reducible exact LeO.refl _)
      | (with_reducible exact LeO.none _)
      | (with_reducible refine LeO.ite ?_ ?_)
      | (with_reducible refine LeO.bind ?_ (fun _ => ?_))
      | exact object_Header.mono _ _ _
      | exact LeO.none _
      | refine LeO.ite ?_ ?_
      | refine LeO.bind ?_ (fun _ => ?_)
set_option maxHeartbeats 8000000 in
set_option maxRecDepth 100000 in
theorem object_Parse.calls (k : Nat) (a0 : Int) (r1 : Int) (r2 : Int) (r3 : Bool) (w : World) (h : object_Parse.f k a0 = some (r1, r2, r3)) :
    Calls Try.prog 11 #[.int .i64 a0] w fun e w' => e = .returned (.tuple #[.int .i64 r1, .int .i64 r2, .bool r3]) ∧ Drawn0 w w' := by
  have H : (if a0 < 16777216 then (some (0, 0, false)) else ((object_Header.f k (wrap64 (Int.tdiv (wrap64 (a0 - 16777216)) 256)) (Int.tmod (wrap64 (a0 - 16777216)) 256)).bind fun bt101 => (if bt101.2 = true then (some (wrap64 (Int.tdiv (wrap64 (a0 - 16777216)) 256), Int.tmod (wrap64 (a0 - 16777216)) 256, true)) else (some (0, 0, false))))) = some (r1, r2, r3) := h
  clear h
  by_cases c2 : a0 < 16777216
  · rw [if_pos c2] at H
    have c2b0 : decide (a0 < 16777216) = true := decide_eq_true c2
    clear c2
    simp only [Option.some.injEq, Prod.mk.injEq] at H
    obtain ⟨rfl, rfl, rfl⟩ := H
    go_enter Try.func11, Try.ntmps11
    go_wp2
    go_ret3
    exact ⟨by first | rfl | (simp; done) | (simp [*]; done), by repeat (first | exact Drawn0.refl _ | apply Drawn0.step)⟩
  · rw [if_neg c2] at H
    have c2b0 : decide (a0 < 16777216) = false := decide_eq_false c2
    clear c2
    replace H := Option.bind_eq_some_iff.mp H
    obtain ⟨⟨t101, t102⟩, A30, H⟩ := H
    replace H : (if t102 = true then (some (wrap64 (Int.tdiv (wrap64 (a0 - 16777216)) 256), Int.tmod (wrap64 (a0 - 16777216)) 256, true)) else (some (0, 0, false))) = some (r1, r2, r3) := H
    have A3 := Aside0.mk A30
    clear A30
    by_cases c4 : t102 = true
    · subst c4
      have H1 : (some (wrap64 (Int.tdiv (wrap64 (a0 - 16777216)) 256), Int.tmod (wrap64 (a0 - 16777216)) 256, true)) = some (r1, r2, r3) := by rw [if_pos rfl] at H; exact H
      clear H
      have H := H1
      clear H1
      simp only [Option.some.injEq, Prod.mk.injEq] at H
      obtain ⟨rfl, rfl, rfl⟩ := H
      go_enter Try.func11, Try.ntmps11
      go_wp2_with (first | ((with_reducible refine gate_callee (f := 9) rfl ?_); refine goesL_ (some 20) rfl rfl Try.func9 (by kernel_rfl) rfl #[.int .i64 (wrap64 (Int.tdiv (wrap64 (a0 - 16777216)) 256)), .int .i64 (Int.tmod (wrap64 (a0 - 16777216)) 256)] rfl (by (try simp only [List.map_toArray, List.map_cons, List.map_nil]); first | done | rfl | (simp only [List.length_drop, List.length_take]; rfl)) ?_; (with_reducible refine (object_Header.calls k (wrap64 (Int.tdiv (wrap64 (a0 - 16777216)) 256)) (Int.tmod (wrap64 (a0 - 16777216)) 256) t101 true _ A3.out).mono ?_); rintro e w' ⟨rfl, ⟨nd, rfl⟩⟩; refine ⟨_, rfl, ?_⟩))
      go_ret3
      exact ⟨by first | rfl | (simp; done) | (simp [*]; done), by repeat (first | exact Drawn0.refl _ | apply Drawn0.step)⟩
    · replace c4 := Bool.eq_false_iff.mpr c4
      subst c4
      have H1 : (some (0, 0, false)) = some (r1, r2, r3) := by rw [if_neg (show ¬ (false = true) by decide)] at H; exact H
      clear H
      have H := H1
      clear H1
      simp only [Option.some.injEq, Prod.mk.injEq] at H
      obtain ⟨rfl, rfl, rfl⟩ := H
      go_enter Try.func11, Try.ntmps11
      go_wp2_with (first | ((with_reducible refine gate_callee (f := 9) rfl ?_); refine goesL_ (some 20) rfl rfl Try.func9 (by kernel_rfl) rfl #[.int .i64 (wrap64 (Int.tdiv (wrap64 (a0 - 16777216)) 256)), .int .i64 (Int.tmod (wrap64 (a0 - 16777216)) 256)] rfl (by (try simp only [List.map_toArray, List.map_cons, List.map_nil]); first | done | rfl | (simp only [List.length_drop, List.length_take]; rfl)) ?_; (with_reducible refine (object_Header.calls k (wrap64 (Int.tdiv (wrap64 (a0 - 16777216)) 256)) (Int.tmod (wrap64 (a0 - 16777216)) 256) t101 false _ A3.out).mono ?_); rintro e w' ⟨rfl, ⟨nd, rfl⟩⟩; refine ⟨_, rfl, ?_⟩))
      go_ret3
      exact ⟨by first | rfl | (simp; done) | (simp [*]; done), by repeat (first | exact Drawn0.refl _ | apply Drawn0.step)⟩

/-! ### object_Size: function 12 -/
def object_Size.f (k : Nat) (a0 : Int) (a1 : Int) : Option (Int) := (object_Header.f k a0 a1).bind fun bt103 => (if bt103.2 = true then (some (wrap64 ((wrap64 (1 + a0)) + a1))) else (some 0))
theorem object_Size.mono : ∀ a0 a1 k, LeO (object_Size.f k a0 a1) (object_Size.f (k + 1) a0 a1) := by
  intro a0 a1 k
  unfold object_Size.f
  repeat' first
      | (with_reducible exact object_Header.mono _ _ _)
      | (with_reducible exact LeO.refl _)
      | (with_reducible exact LeO.none _)
      | (with_reducible refine LeO.ite ?_ ?_)
      | (with_reducible refine LeO.bind ?_ (fun _ => ?_))
      | exact object_Header.mono _ _ _
      | exact LeO.none _
      | refine LeO.ite ?_ ?_
      | refine LeO.bind ?_ (fun _ => ?_)
set_option maxHeartbeats 8000000 in
set_option maxRecDepth 100000 in
theorem object_Size.calls (k : Nat) (a0 : Int) (a1 : Int) (r : Int) (w : World) (h : object_Size.f k a0 a1 = some r) :
    Calls Try.prog 12 #[.int .i64 a0, .int .i64 a1] w fun e w' => e = .returned (.int .i64 r) ∧ Drawn0 w w' := by
  have H : ((object_Header.f k a0 a1).bind fun bt103 => (if bt103.2 = true then (some (wrap64 ((wrap64 (1 + a0)) + a1))) else (some 0))) = some r := h
  clear h
  replace H := Option.bind_eq_some_iff.mp H
  obtain ⟨⟨t103, t104⟩, A30, H⟩ := H
  replace H : (if t104 = true then (some (wrap64 ((wrap64 (1 + a0)) + a1))) else (some 0)) = some r := H
  have A3 := Aside0.mk A30
  clear A30
  by_cases c4 : t104 = true
  · subst c4
    have H1 : (some (wrap64 ((wrap64 (1 + a0)) + a1))) = some r := by rw [if_pos rfl] at H; exact H
    clear H
    have H := H1
    clear H1
    obtain rfl := Option.some.inj H
    go_enter Try.func12, Try.ntmps12
    go_wp2_with (first | ((with_reducible refine gate_callee (f := 9) rfl ?_); refine goesL_ (some 10) rfl rfl Try.func9 (by kernel_rfl) rfl #[.int .i64 a0, .int .i64 a1] rfl (by (try simp only [List.map_toArray, List.map_cons, List.map_nil]); first | done | rfl | (simp only [List.length_drop, List.length_take]; rfl)) ?_; (with_reducible refine (object_Header.calls k a0 a1 t103 true _ A3.out).mono ?_); rintro e w' ⟨rfl, ⟨nd, rfl⟩⟩; refine ⟨_, rfl, ?_⟩))
    go_ret
    exact ⟨by first | rfl | (simp; done) | (simp [*]; done), by repeat (first | exact Drawn0.refl _ | apply Drawn0.step)⟩
  · replace c4 := Bool.eq_false_iff.mpr c4
    subst c4
    have H1 : (some 0) = some r := by rw [if_neg (show ¬ (false = true) by decide)] at H; exact H
    clear H
    have H := H1
    clear H1
    obtain rfl := Option.some.inj H
    go_enter Try.func12, Try.ntmps12
    go_wp2_with (first | ((with_reducible refine gate_callee (f := 9) rfl ?_); refine goesL_ (some 10) rfl rfl Try.func9 (by kernel_rfl) rfl #[.int .i64 a0, .int .i64 a1] rfl (by (try simp only [List.map_toArray, List.map_cons, List.map_nil]); first | done | rfl | (simp only [List.length_drop, List.length_take]; rfl)) ?_; (with_reducible refine (object_Header.calls k a0 a1 t103 false _ A3.out).mono ?_); rintro e w' ⟨rfl, ⟨nd, rfl⟩⟩; refine ⟨_, rfl, ?_⟩))
    go_ret
    exact ⟨by first | rfl | (simp; done) | (simp [*]; done), by repeat (first | exact Drawn0.refl _ | apply Drawn0.step)⟩

/-! ### flittinglaw10_alive: function 10 -/
def flittinglaw10_alive.f (k : Nat)  : Option (Bool) := (object_Header.f k 2 3).bind fun bt105 => ((object_Parse.f k bt105.1).bind fun bt107 => (if bt105.2 = true then (if bt107.2.2 = true then (if bt107.1 = 2 then (if bt107.2.1 = 3 then ((object_Size.f k 2 3).bind fun t110 => (some (t110 == 6))) else (some false)) else (some false)) else (some false)) else (some false)))
theorem flittinglaw10_alive.mono : ∀ k, LeO (flittinglaw10_alive.f k ) (flittinglaw10_alive.f (k + 1) ) := by
  intro  k
  unfold flittinglaw10_alive.f
  repeat' first
      | (with_reducible exact object_Header.mono _ _ _)
      | (with_reducible exact object_Parse.mono _ _)
      | (with_reducible exact object_Size.mono _ _ _)
      | (with_reducible exact LeO.refl _)
      | (with_reducible exact LeO.none _)
      | (with_reducible refine LeO.ite ?_ ?_)
      | (with_reducible refine LeO.bind ?_ (fun _ => ?_))
      | exact object_Header.mono _ _ _
      | exact object_Parse.mono _ _
      | exact object_Size.mono _ _ _
      | exact LeO.none _
      | refine LeO.ite ?_ ?_
      | refine LeO.bind ?_ (fun _ => ?_)
set_option maxHeartbeats 8000000 in
set_option maxRecDepth 100000 in
theorem flittinglaw10_alive.calls (k : Nat)  (r : Bool) (w : World) (h : flittinglaw10_alive.f k  = some r) :
    Calls Try.prog 10 #[] w fun e w' => e = .returned (.bool r) ∧ Drawn0 w w' := by
  have H : ((object_Header.f k 2 3).bind fun bt105 => ((object_Parse.f k bt105.1).bind fun bt107 => (if bt105.2 = true then (if bt107.2.2 = true then (if bt107.1 = 2 then (if bt107.2.1 = 3 then ((object_Size.f k 2 3).bind fun t110 => (some (t110 == 6))) else (some false)) else (some false)) else (some false)) else (some false)))) = some r := h
  clear h
  replace H := Option.bind_eq_some_iff.mp H
  obtain ⟨⟨t105, t106⟩, A10, H⟩ := H
  replace H : ((object_Parse.f k t105).bind fun bt107 => (if t106 = true then (if bt107.2.2 = true then (if bt107.1 = 2 then (if bt107.2.1 = 3 then ((object_Size.f k 2 3).bind fun t110 => (some (t110 == 6))) else (some false)) else (some false)) else (some false)) else (some false))) = some r := H
  have A1 := Aside0.mk A10
  clear A10
  replace H := Option.bind_eq_some_iff.mp H
  obtain ⟨⟨t107, t108, t109⟩, A20, H⟩ := H
  replace H : (if t106 = true then (if t109 = true then (if t107 = 2 then (if t108 = 3 then ((object_Size.f k 2 3).bind fun t110 => (some (t110 == 6))) else (some false)) else (some false)) else (some false)) else (some false)) = some r := H
  have A2 := Aside0.mk A20
  clear A20
  by_cases c3 : t106 = true
  · subst c3
    have H1 : (if t109 = true then (if t107 = 2 then (if t108 = 3 then ((object_Size.f k 2 3).bind fun t110 => (some (t110 == 6))) else (some false)) else (some false)) else (some false)) = some r := by rw [if_pos rfl] at H; exact H
    clear H
    have H := H1
    clear H1
    by_cases c4 : t109 = true
    · subst c4
      have H1 : (if t107 = 2 then (if t108 = 3 then ((object_Size.f k 2 3).bind fun t110 => (some (t110 == 6))) else (some false)) else (some false)) = some r := by rw [if_pos rfl] at H; exact H
      clear H
      have H := H1
      clear H1
      by_cases c5 : t107 = 2
      · rw [if_pos c5] at H
        have c5b0 : (t107 == 2) = true := beq_iff_eq.mpr c5
        have c5b1 : (t107 != 2) = false := bne_eq_false_iff_eq.mpr c5
        clear c5
        by_cases c6 : t108 = 3
        · rw [if_pos c6] at H
          have c6b0 : (t108 == 3) = true := beq_iff_eq.mpr c6
          have c6b1 : (t108 != 3) = false := bne_eq_false_iff_eq.mpr c6
          clear c6
          replace H := Option.bind_eq_some_iff.mp H
          obtain ⟨t110, A70, H⟩ := H
          replace H : (some (t110 == 6)) = some r := H
          have A7 := Aside0.mk A70
          clear A70
          obtain rfl := Option.some.inj H
          go_enter Try.func10, Try.ntmps10
          go_wp2_with (first | ((with_reducible refine gate_callee (f := 9) rfl ?_); refine goesL_ (some 7) rfl rfl Try.func9 (by kernel_rfl) rfl #[.int .i64 2, .int .i64 3] rfl (by (try simp only [List.map_toArray, List.map_cons, List.map_nil]); first | done | rfl | (simp only [List.length_drop, List.length_take]; rfl)) ?_; (with_reducible refine (object_Header.calls k 2 3 t105 true _ A1.out).mono ?_); rintro e w' ⟨rfl, ⟨nd, rfl⟩⟩; refine ⟨_, rfl, ?_⟩) | ((with_reducible refine gate_callee (f := 11) rfl ?_); refine goesL_ (some 12) rfl rfl Try.func11 (by kernel_rfl) rfl #[.int .i64 t105] rfl (by (try simp only [List.map_toArray, List.map_cons, List.map_nil]); first | done | rfl | (simp only [List.length_drop, List.length_take]; rfl)) ?_; (with_reducible refine (object_Parse.calls k t105 t107 t108 true _ A2.out).mono ?_); rintro e w' ⟨rfl, ⟨nd, rfl⟩⟩; refine ⟨_, rfl, ?_⟩) | (go_at_call 12; (with_reducible refine (object_Size.calls k 2 3 t110 _ A7.out).mono ?_); rintro e w' ⟨rfl, ⟨nd, rfl⟩⟩))
          go_ret
          exact ⟨by first | rfl | (simp; done) | (simp [*]; done), by repeat (first | exact Drawn0.refl _ | apply Drawn0.step)⟩
        · rw [if_neg c6] at H
          have c6b0 : (t108 == 3) = false := beq_eq_false_iff_ne.mpr c6
          have c6b1 : (t108 != 3) = true := bne_iff_ne.mpr c6
          obtain rfl := Option.some.inj H
          go_enter Try.func10, Try.ntmps10
          go_wp2_with (first | ((with_reducible refine gate_callee (f := 9) rfl ?_); refine goesL_ (some 7) rfl rfl Try.func9 (by kernel_rfl) rfl #[.int .i64 2, .int .i64 3] rfl (by (try simp only [List.map_toArray, List.map_cons, List.map_nil]); first | done | rfl | (simp only [List.length_drop, List.length_take]; rfl)) ?_; (with_reducible refine (object_Header.calls k 2 3 t105 true _ A1.out).mono ?_); rintro e w' ⟨rfl, ⟨nd, rfl⟩⟩; refine ⟨_, rfl, ?_⟩) | ((with_reducible refine gate_callee (f := 11) rfl ?_); refine goesL_ (some 12) rfl rfl Try.func11 (by kernel_rfl) rfl #[.int .i64 t105] rfl (by (try simp only [List.map_toArray, List.map_cons, List.map_nil]); first | done | rfl | (simp only [List.length_drop, List.length_take]; rfl)) ?_; (with_reducible refine (object_Parse.calls k t105 t107 t108 true _ A2.out).mono ?_); rintro e w' ⟨rfl, ⟨nd, rfl⟩⟩; refine ⟨_, rfl, ?_⟩))
          go_ret
          exact ⟨by first | rfl | (simp; done) | (simp [*]; done), by repeat (first | exact Drawn0.refl _ | apply Drawn0.step)⟩
      · rw [if_neg c5] at H
        have c5b0 : (t107 == 2) = false := beq_eq_false_iff_ne.mpr c5
        have c5b1 : (t107 != 2) = true := bne_iff_ne.mpr c5
        obtain rfl := Option.some.inj H
        go_enter Try.func10, Try.ntmps10
        go_wp2_with (first | ((with_reducible refine gate_callee (f := 9) rfl ?_); refine goesL_ (some 7) rfl rfl Try.func9 (by kernel_rfl) rfl #[.int .i64 2, .int .i64 3] rfl (by (try simp only [List.map_toArray, List.map_cons, List.map_nil]); first | done | rfl | (simp only [List.length_drop, List.length_take]; rfl)) ?_; (with_reducible refine (object_Header.calls k 2 3 t105 true _ A1.out).mono ?_); rintro e w' ⟨rfl, ⟨nd, rfl⟩⟩; refine ⟨_, rfl, ?_⟩) | ((with_reducible refine gate_callee (f := 11) rfl ?_); refine goesL_ (some 12) rfl rfl Try.func11 (by kernel_rfl) rfl #[.int .i64 t105] rfl (by (try simp only [List.map_toArray, List.map_cons, List.map_nil]); first | done | rfl | (simp only [List.length_drop, List.length_take]; rfl)) ?_; (with_reducible refine (object_Parse.calls k t105 t107 t108 true _ A2.out).mono ?_); rintro e w' ⟨rfl, ⟨nd, rfl⟩⟩; refine ⟨_, rfl, ?_⟩))
        go_ret
        exact ⟨by first | rfl | (simp; done) | (simp [*]; done), by repeat (first | exact Drawn0.refl _ | apply Drawn0.step)⟩
    · replace c4 := Bool.eq_false_iff.mpr c4
      subst c4
      have H1 : (some false) = some r := by rw [if_neg (show ¬ (false = true) by decide)] at H; exact H
      clear H
      have H := H1
      clear H1
      obtain rfl := Option.some.inj H
      go_enter Try.func10, Try.ntmps10
      go_wp2_with (first | ((with_reducible refine gate_callee (f := 9) rfl ?_); refine goesL_ (some 7) rfl rfl Try.func9 (by kernel_rfl) rfl #[.int .i64 2, .int .i64 3] rfl (by (try simp only [List.map_toArray, List.map_cons, List.map_nil]); first | done | rfl | (simp only [List.length_drop, List.length_take]; rfl)) ?_; (with_reducible refine (object_Header.calls k 2 3 t105 true _ A1.out).mono ?_); rintro e w' ⟨rfl, ⟨nd, rfl⟩⟩; refine ⟨_, rfl, ?_⟩) | ((with_reducible refine gate_callee (f := 11) rfl ?_); refine goesL_ (some 12) rfl rfl Try.func11 (by kernel_rfl) rfl #[.int .i64 t105] rfl (by (try simp only [List.map_toArray, List.map_cons, List.map_nil]); first | done | rfl | (simp only [List.length_drop, List.length_take]; rfl)) ?_; (with_reducible refine (object_Parse.calls k t105 t107 t108 false _ A2.out).mono ?_); rintro e w' ⟨rfl, ⟨nd, rfl⟩⟩; refine ⟨_, rfl, ?_⟩))
      go_ret
      exact ⟨by first | rfl | (simp; done) | (simp [*]; done), by repeat (first | exact Drawn0.refl _ | apply Drawn0.step)⟩
  · replace c3 := Bool.eq_false_iff.mpr c3
    subst c3
    have H1 : (some false) = some r := by rw [if_neg (show ¬ (false = true) by decide)] at H; exact H
    clear H
    have H := H1
    clear H1
    obtain rfl := Option.some.inj H
    go_enter Try.func10, Try.ntmps10
    go_wp2_with (first | ((with_reducible refine gate_callee (f := 9) rfl ?_); refine goesL_ (some 7) rfl rfl Try.func9 (by kernel_rfl) rfl #[.int .i64 2, .int .i64 3] rfl (by (try simp only [List.map_toArray, List.map_cons, List.map_nil]); first | done | rfl | (simp only [List.length_drop, List.length_take]; rfl)) ?_; (with_reducible refine (object_Header.calls k 2 3 t105 false _ A1.out).mono ?_); rintro e w' ⟨rfl, ⟨nd, rfl⟩⟩; refine ⟨_, rfl, ?_⟩) | ((with_reducible refine gate_callee (f := 11) rfl ?_); refine goesL_ (some 12) rfl rfl Try.func11 (by kernel_rfl) rfl #[.int .i64 t105] rfl (by (try simp only [List.map_toArray, List.map_cons, List.map_nil]); first | done | rfl | (simp only [List.length_drop, List.length_take]; rfl)) ?_; (with_reducible refine (object_Parse.calls k t105 t107 t108 t109 _ A2.out).mono ?_); rintro e w' ⟨rfl, ⟨nd, rfl⟩⟩; refine ⟨_, rfl, ?_⟩))
    go_ret
    exact ⟨by first | rfl | (simp; done) | (simp [*]; done), by repeat (first | exact Drawn0.refl _ | apply Drawn0.step)⟩

/-! ### flittinglaw10_ObjectSizes: function 3 -/
def flittinglaw10_ObjectSizes.j0 : Nat → Int → Int → Int → Int → Int → Int → Bool → Option (Bool)
  | 0, _, _, _, _, _, _, _ => none
  | k + 1, x0, x1, x2, x3, x9, x11, x37 => if x37 = true then ((flittinglaw10_alive.f k).bind fun t116 => (some t116)) else ((object_Parse.f k x9).bind fun bt117 => (if bt117.2.2 = true then ((object_Size.f k bt117.1 bt117.2.1).bind fun t120 => (if t120 = (wrap64 ((wrap64 (1 + x0)) + x1)) then (if x0 = x2 then (if ((x9 == x11) == (x1 == x3)) = true then (some (decide (x9 > 0))) else (some false)) else (if ((x9 == x11) == false) = true then (some (decide (x9 > 0))) else (some false))) else (some false))) else (some false)))
def flittinglaw10_ObjectSizes.f (k : Nat) (a0 : Int) (a1 : Int) (a2 : Int) (a3 : Int) : Option (Bool) := (object_Header.f k a0 a1).bind fun bt111 => ((object_Header.f k a2 a3).bind fun bt113 => (if bt111.2 = true then (if bt113.2 = true then ((flittinglaw10_alive.f k).bind fun t115 => (flittinglaw10_ObjectSizes.j0 k a0 a1 a2 a3 bt111.1 bt113.1 (!t115))) else (flittinglaw10_ObjectSizes.j0 k a0 a1 a2 a3 bt111.1 bt113.1 true)) else (flittinglaw10_ObjectSizes.j0 k a0 a1 a2 a3 bt111.1 bt113.1 true)))
theorem flittinglaw10_ObjectSizes.mono_l : ∀ k, (∀ y0 y1 y2 y3 y4 y5 y6, LeO (flittinglaw10_ObjectSizes.j0 k y0 y1 y2 y3 y4 y5 y6) (flittinglaw10_ObjectSizes.j0 (k + 1) y0 y1 y2 y3 y4 y5 y6))
  | 0 => fun _ _ _ _ _ _ _ r h => by simp [flittinglaw10_ObjectSizes.j0] at h
  | k + 1 => by
    have ih0 := flittinglaw10_ObjectSizes.mono_l k
    · intro y0 y1 y2 y3 y4 y5 y6
      unfold flittinglaw10_ObjectSizes.j0
      repeat' first
      | (with_reducible exact ih0 _ _ _ _ _ _ _)
      | (with_reducible exact flittinglaw10_alive.mono _)
      | (with_reducible exact object_Header.mono _ _ _)
      | (with_reducible exact object_Parse.mono _ _)
      | (with_reducible exact object_Size.mono _ _ _)
      | (with_reducible exact LeO.refl _)
      | (with_reducible exact LeO.none _)
      | (with_reducible refine LeO.ite ?_ ?_)
      | (with_reducible refine LeO.bind ?_ (fun _ => ?_))
      | exact ih0 _ _ _ _ _ _ _
      | exact flittinglaw10_alive.mono _
      | exact object_Header.mono _ _ _
      | exact object_Parse.mono _ _
      | exact object_Size.mono _ _ _
      | exact LeO.none _
      | refine LeO.ite ?_ ?_
      | refine LeO.bind ?_ (fun _ => ?_)
theorem flittinglaw10_ObjectSizes.mono : ∀ a0 a1 a2 a3 k, LeO (flittinglaw10_ObjectSizes.f k a0 a1 a2 a3) (flittinglaw10_ObjectSizes.f (k + 1) a0 a1 a2 a3) := by
  intro a0 a1 a2 a3 k
  have ih0 := flittinglaw10_ObjectSizes.mono_l k
  unfold flittinglaw10_ObjectSizes.f
  repeat' first
      | (with_reducible exact ih0 _ _ _ _ _ _ _)
      | (with_reducible exact flittinglaw10_alive.mono _)
      | (with_reducible exact object_Header.mono _ _ _)
      | (with_reducible exact object_Parse.mono _ _)
      | (with_reducible exact object_Size.mono _ _ _)
      | (with_reducible exact LeO.refl _)
      | (with_reducible exact LeO.none _)
      | (with_reducible refine LeO.ite ?_ ?_)
      | (with_reducible refine LeO.bind ?_ (fun _ => ?_))
      | exact ih0 _ _ _ _ _ _ _
      | exact flittinglaw10_alive.mono _
      | exact object_Header.mono _ _ _
      | exact object_Parse.mono _ _
      | exact object_Size.mono _ _ _
      | exact LeO.none _
      | refine LeO.ite ?_ ?_
      | refine LeO.bind ?_ (fun _ => ?_)
set_option maxHeartbeats 8000000 in
set_option maxRecDepth 100000 in
theorem flittinglaw10_ObjectSizes.calls (k : Nat) (a0 : Int) (a1 : Int) (a2 : Int) (a3 : Int) (r : Bool) (w : World) (h : flittinglaw10_ObjectSizes.f k a0 a1 a2 a3 = some r) :
    Calls Try.prog 3 #[.int .i64 a0, .int .i64 a1, .int .i64 a2, .int .i64 a3] w fun e w' => e = .returned (.bool r) ∧ Drawn0 w w' := by
  have H : ((object_Header.f k a0 a1).bind fun bt111 => ((object_Header.f k a2 a3).bind fun bt113 => (if bt111.2 = true then (if bt113.2 = true then ((flittinglaw10_alive.f k).bind fun t115 => (flittinglaw10_ObjectSizes.j0 k a0 a1 a2 a3 bt111.1 bt113.1 (!t115))) else (flittinglaw10_ObjectSizes.j0 k a0 a1 a2 a3 bt111.1 bt113.1 true)) else (flittinglaw10_ObjectSizes.j0 k a0 a1 a2 a3 bt111.1 bt113.1 true)))) = some r := h
  clear h
  replace H := Option.bind_eq_some_iff.mp H
  obtain ⟨⟨t111, t112⟩, A50, H⟩ := H
  replace H : ((object_Header.f k a2 a3).bind fun bt113 => (if t112 = true then (if bt113.2 = true then ((flittinglaw10_alive.f k).bind fun t115 => (flittinglaw10_ObjectSizes.j0 k a0 a1 a2 a3 t111 bt113.1 (!t115))) else (flittinglaw10_ObjectSizes.j0 k a0 a1 a2 a3 t111 bt113.1 true)) else (flittinglaw10_ObjectSizes.j0 k a0 a1 a2 a3 t111 bt113.1 true))) = some r := H
  have A5 := Aside0.mk A50
  clear A50
  replace H := Option.bind_eq_some_iff.mp H
  obtain ⟨⟨t113, t114⟩, A60, H⟩ := H
  replace H : (if t112 = true then (if t114 = true then ((flittinglaw10_alive.f k).bind fun t115 => (flittinglaw10_ObjectSizes.j0 k a0 a1 a2 a3 t111 t113 (!t115))) else (flittinglaw10_ObjectSizes.j0 k a0 a1 a2 a3 t111 t113 true)) else (flittinglaw10_ObjectSizes.j0 k a0 a1 a2 a3 t111 t113 true)) = some r := H
  have A6 := Aside0.mk A60
  clear A60
  have HC7 := Aside0.mk H
  clear H
  go_enter Try.func3, Try.ntmps3
  go_upto_region 3 with (first | ((with_reducible refine gate_callee (f := 9) rfl ?_); refine goesL_ (some 19) rfl rfl Try.func9 (by kernel_rfl) rfl #[.int .i64 a0, .int .i64 a1] rfl (by (try simp only [List.map_toArray, List.map_cons, List.map_nil]); first | done | rfl | (simp only [List.length_drop, List.length_take]; rfl)) ?_; (with_reducible refine (object_Header.calls k a0 a1 t111 t112 _ A5.out).mono ?_); rintro e w' ⟨rfl, ⟨nd, rfl⟩⟩; refine ⟨_, rfl, ?_⟩) | ((with_reducible refine gate_callee (f := 9) rfl ?_); refine goesL_ (some 25) rfl rfl Try.func9 (by kernel_rfl) rfl #[.int .i64 a2, .int .i64 a3] rfl (by (try simp only [List.map_toArray, List.map_cons, List.map_nil]); first | done | rfl | (simp only [List.length_drop, List.length_take]; rfl)) ?_; (with_reducible refine (object_Header.calls k a2 a3 t113 t114 _ A6.out).mono ?_); rintro e w' ⟨rfl, ⟨nd, rfl⟩⟩; refine ⟨_, rfl, ?_⟩))
  (try simp only [Act.put, List.setIfInBounds_toArray, List.set_cons_zero, List.set_cons_succ])
  go_cut [37] (fun v37 wc => ∃ (kq : Nat) (x37_6 : Bool), v37 = .bool x37_6 ∧ Aside0 (flittinglaw10_ObjectSizes.j0 kq a0 a1 a2 a3 t111 t113 x37_6 = some r) ∧ Aside0 (kq ≤ k) ∧ Drawn0 w wc)
  case first =>
    have H := HC7.out
    clear HC7
    by_cases c8 : t112 = true
    · subst c8
      have H1 : (if t114 = true then ((flittinglaw10_alive.f k).bind fun t115 => (flittinglaw10_ObjectSizes.j0 k a0 a1 a2 a3 t111 t113 (!t115))) else (flittinglaw10_ObjectSizes.j0 k a0 a1 a2 a3 t111 t113 true)) = some r := by rw [if_pos rfl] at H; exact H
      clear H
      have H := H1
      clear H1
      by_cases c9 : t114 = true
      · subst c9
        have H1 : ((flittinglaw10_alive.f k).bind fun t115 => (flittinglaw10_ObjectSizes.j0 k a0 a1 a2 a3 t111 t113 (!t115))) = some r := by rw [if_pos rfl] at H; exact H
        clear H
        have H := H1
        clear H1
        replace H := Option.bind_eq_some_iff.mp H
        obtain ⟨t115, A100, H⟩ := H
        replace H : (flittinglaw10_ObjectSizes.j0 k a0 a1 a2 a3 t111 t113 (!t115)) = some r := H
        have A10 := Aside0.mk A100
        clear A100
        have H' := Aside0.mk H
        clear H
        go_wp2_with (first | (go_at_call 10; (with_reducible refine (flittinglaw10_alive.calls k  t115 _ A10.out).mono ?_); rintro e w' ⟨rfl, ⟨nd, rfl⟩⟩))
        go_meet
        case rel => exact ⟨_, (!t115), (by first | rfl | (simp; done) | (simp [*]; done)), H', ⟨by first | omega | exact Nat.le_refl _⟩, by repeat (first | exact Drawn0.refl _ | apply Drawn0.step)⟩
      · replace c9 := Bool.eq_false_iff.mpr c9
        subst c9
        have H1 : (flittinglaw10_ObjectSizes.j0 k a0 a1 a2 a3 t111 t113 true) = some r := by rw [if_neg (show ¬ (false = true) by decide)] at H; exact H
        clear H
        have H := H1
        clear H1
        have H' := Aside0.mk H
        clear H
        go_wp2
        go_meet
        case rel => exact ⟨_, (true), (by first | rfl | (simp; done) | (simp [*]; done)), H', ⟨by first | omega | exact Nat.le_refl _⟩, by repeat (first | exact Drawn0.refl _ | apply Drawn0.step)⟩
    · replace c8 := Bool.eq_false_iff.mpr c8
      subst c8
      have H1 : (flittinglaw10_ObjectSizes.j0 k a0 a1 a2 a3 t111 t113 true) = some r := by rw [if_neg (show ¬ (false = true) by decide)] at H; exact H
      clear H
      have H := H1
      clear H1
      have H' := Aside0.mk H
      clear H
      go_wp2
      go_meet
      case rel => exact ⟨_, (true), (by first | rfl | (simp; done) | (simp [*]; done)), H', ⟨by first | omega | exact Nat.le_refl _⟩, by repeat (first | exact Drawn0.refl _ | apply Drawn0.step)⟩
  case rest =>
    clear HC7
    try clear p2
    try clear c3
    try clear c8
    try clear c9
    obtain ⟨kq, x37_6, rfl, HA, HJ6, ⟨mc6, rfl⟩⟩ := hcut
    cases kq with
    | zero => exact absurd HA.out (by simp [flittinglaw10_ObjectSizes.j0])
    | succ kj6 =>
      have H := HA.out
      clear HA
      simp only [flittinglaw10_ObjectSizes.j0] at H
      by_cases c11 : x37_6 = true
      · subst c11
        have H1 : ((flittinglaw10_alive.f kj6).bind fun t116 => (some t116)) = some r := by rw [if_pos rfl] at H; exact H
        clear H
        have H := H1
        clear H1
        replace H := Option.bind_eq_some_iff.mp H
        obtain ⟨t116, A120, H⟩ := H
        replace H : (some t116) = some r := H
        have A12 := Aside0.mk A120
        clear A120
        obtain rfl := Option.some.inj H
        go_wp2_with (first | ((with_reducible refine gate_callee (f := 10) rfl ?_); refine goesL_ (some 38) rfl rfl Try.func10 (by kernel_rfl) rfl #[] rfl (by (try simp only [List.map_toArray, List.map_cons, List.map_nil]); first | done | rfl | (simp only [List.length_drop, List.length_take]; rfl)) ?_; (with_reducible refine (flittinglaw10_alive.calls kj6  t116 _ A12.out).mono ?_); rintro e w' ⟨rfl, ⟨nd, rfl⟩⟩; refine ⟨_, rfl, ?_⟩))
        go_ret
        exact ⟨by first | rfl | (simp; done) | (simp [*]; done), by repeat (first | exact Drawn0.refl _ | apply Drawn0.step)⟩
      · replace c11 := Bool.eq_false_iff.mpr c11
        subst c11
        have H1 : ((object_Parse.f kj6 t111).bind fun bt117 => (if bt117.2.2 = true then ((object_Size.f kj6 bt117.1 bt117.2.1).bind fun t120 => (if t120 = (wrap64 ((wrap64 (1 + a0)) + a1)) then (if a0 = a2 then (if ((t111 == t113) == (a1 == a3)) = true then (some (decide (t111 > 0))) else (some false)) else (if ((t111 == t113) == false) = true then (some (decide (t111 > 0))) else (some false))) else (some false))) else (some false))) = some r := by rw [if_neg (show ¬ (false = true) by decide)] at H; exact H
        clear H
        have H := H1
        clear H1
        replace H := Option.bind_eq_some_iff.mp H
        obtain ⟨⟨t117, t118, t119⟩, A130, H⟩ := H
        replace H : (if t119 = true then ((object_Size.f kj6 t117 t118).bind fun t120 => (if t120 = (wrap64 ((wrap64 (1 + a0)) + a1)) then (if a0 = a2 then (if ((t111 == t113) == (a1 == a3)) = true then (some (decide (t111 > 0))) else (some false)) else (if ((t111 == t113) == false) = true then (some (decide (t111 > 0))) else (some false))) else (some false))) else (some false)) = some r := H
        have A13 := Aside0.mk A130
        clear A130
        by_cases c14 : t119 = true
        · subst c14
          have H1 : ((object_Size.f kj6 t117 t118).bind fun t120 => (if t120 = (wrap64 ((wrap64 (1 + a0)) + a1)) then (if a0 = a2 then (if ((t111 == t113) == (a1 == a3)) = true then (some (decide (t111 > 0))) else (some false)) else (if ((t111 == t113) == false) = true then (some (decide (t111 > 0))) else (some false))) else (some false))) = some r := by rw [if_pos rfl] at H; exact H
          clear H
          have H := H1
          clear H1
          replace H := Option.bind_eq_some_iff.mp H
          obtain ⟨t120, A150, H⟩ := H
          replace H : (if t120 = (wrap64 ((wrap64 (1 + a0)) + a1)) then (if a0 = a2 then (if ((t111 == t113) == (a1 == a3)) = true then (some (decide (t111 > 0))) else (some false)) else (if ((t111 == t113) == false) = true then (some (decide (t111 > 0))) else (some false))) else (some false)) = some r := H
          have A15 := Aside0.mk A150
          clear A150
          by_cases c16 : t120 = (wrap64 ((wrap64 (1 + a0)) + a1))
          · rw [if_pos c16] at H
            have c16b0 : (t120 == (wrap64 ((wrap64 (1 + a0)) + a1))) = true := beq_iff_eq.mpr c16
            have c16b1 : (t120 != (wrap64 ((wrap64 (1 + a0)) + a1))) = false := bne_eq_false_iff_eq.mpr c16
            clear c16
            by_cases c17 : a0 = a2
            · rw [if_pos c17] at H
              have c17b0 : (a0 == a2) = true := beq_iff_eq.mpr c17
              have c17b1 : (a0 != a2) = false := bne_eq_false_iff_eq.mpr c17
              clear c17
              by_cases c18 : ((t111 == t113) == (a1 == a3)) = true
              · rw [if_pos c18] at H
                have c18b0 : ((t111 == t113) == (a1 == a3)) = true := c18
                (try (have c18b1 : decide ((t111 == t113) = (a1 == a3)) = true := by simpa using c18))
                (try (have c18b2 : ((t111 == t113) == (a1 == a3)) = true := by simpa using c18))
                clear c18
                obtain rfl := Option.some.inj H
                go_wp2_with (first | ((with_reducible refine gate_callee (f := 11) rfl ?_); refine goesL_ (some 41) rfl rfl Try.func11 (by kernel_rfl) rfl #[.int .i64 t111] rfl (by (try simp only [List.map_toArray, List.map_cons, List.map_nil]); first | done | rfl | (simp only [List.length_drop, List.length_take]; rfl)) ?_; (with_reducible refine (object_Parse.calls kj6 t111 t117 t118 true _ A13.out).mono ?_); rintro e w' ⟨rfl, ⟨nd, rfl⟩⟩; refine ⟨_, rfl, ?_⟩) | (go_at_call 12; (with_reducible refine (object_Size.calls kj6 t117 t118 t120 _ A15.out).mono ?_); rintro e w' ⟨rfl, ⟨nd, rfl⟩⟩))
                go_ret
                exact ⟨by first | rfl | (simp; done) | (simp [*]; done), by repeat (first | exact Drawn0.refl _ | apply Drawn0.step)⟩
              · rw [if_neg c18] at H
                have c18b0 : ((t111 == t113) == (a1 == a3)) = false := by simpa using c18
                (try (have c18b1 : decide ((t111 == t113) = (a1 == a3)) = false := by simpa using c18))
                (try (have c18b2 : ((t111 == t113) == (a1 == a3)) = false := by simpa using c18))
                (try (have c18b3 : ¬ ((t111 == t113) = (a1 == a3)) := by simpa using c18))
                clear c18
                obtain rfl := Option.some.inj H
                go_wp2_with (first | ((with_reducible refine gate_callee (f := 11) rfl ?_); refine goesL_ (some 41) rfl rfl Try.func11 (by kernel_rfl) rfl #[.int .i64 t111] rfl (by (try simp only [List.map_toArray, List.map_cons, List.map_nil]); first | done | rfl | (simp only [List.length_drop, List.length_take]; rfl)) ?_; (with_reducible refine (object_Parse.calls kj6 t111 t117 t118 true _ A13.out).mono ?_); rintro e w' ⟨rfl, ⟨nd, rfl⟩⟩; refine ⟨_, rfl, ?_⟩) | (go_at_call 12; (with_reducible refine (object_Size.calls kj6 t117 t118 t120 _ A15.out).mono ?_); rintro e w' ⟨rfl, ⟨nd, rfl⟩⟩))
                go_ret
                exact ⟨by first | rfl | (simp; done) | (simp [*]; done), by repeat (first | exact Drawn0.refl _ | apply Drawn0.step)⟩
            · rw [if_neg c17] at H
              have c17b0 : (a0 == a2) = false := beq_eq_false_iff_ne.mpr c17
              have c17b1 : (a0 != a2) = true := bne_iff_ne.mpr c17
              by_cases c19 : ((t111 == t113) == false) = true
              · rw [if_pos c19] at H
                have c19b0 : ((t111 == t113) == false) = true := c19
                (try (have c19b1 : decide ((t111 == t113) = false) = true := by simpa using c19))
                (try (have c19b2 : ((t111 == t113) == false) = true := by simpa using c19))
                clear c19
                obtain rfl := Option.some.inj H
                go_wp2_with (first | ((with_reducible refine gate_callee (f := 11) rfl ?_); refine goesL_ (some 41) rfl rfl Try.func11 (by kernel_rfl) rfl #[.int .i64 t111] rfl (by (try simp only [List.map_toArray, List.map_cons, List.map_nil]); first | done | rfl | (simp only [List.length_drop, List.length_take]; rfl)) ?_; (with_reducible refine (object_Parse.calls kj6 t111 t117 t118 true _ A13.out).mono ?_); rintro e w' ⟨rfl, ⟨nd, rfl⟩⟩; refine ⟨_, rfl, ?_⟩) | (go_at_call 12; (with_reducible refine (object_Size.calls kj6 t117 t118 t120 _ A15.out).mono ?_); rintro e w' ⟨rfl, ⟨nd, rfl⟩⟩))
                go_ret
                exact ⟨by first | rfl | (simp; done) | (simp [*]; done), by repeat (first | exact Drawn0.refl _ | apply Drawn0.step)⟩
              · rw [if_neg c19] at H
                have c19b0 : ((t111 == t113) == false) = false := by simpa using c19
                (try (have c19b1 : decide ((t111 == t113) = false) = false := by simpa using c19))
                (try (have c19b2 : ((t111 == t113) == false) = false := by simpa using c19))
                (try (have c19b3 : ¬ ((t111 == t113) = false) := by simpa using c19))
                clear c19
                obtain rfl := Option.some.inj H
                go_wp2_with (first | ((with_reducible refine gate_callee (f := 11) rfl ?_); refine goesL_ (some 41) rfl rfl Try.func11 (by kernel_rfl) rfl #[.int .i64 t111] rfl (by (try simp only [List.map_toArray, List.map_cons, List.map_nil]); first | done | rfl | (simp only [List.length_drop, List.length_take]; rfl)) ?_; (with_reducible refine (object_Parse.calls kj6 t111 t117 t118 true _ A13.out).mono ?_); rintro e w' ⟨rfl, ⟨nd, rfl⟩⟩; refine ⟨_, rfl, ?_⟩) | (go_at_call 12; (with_reducible refine (object_Size.calls kj6 t117 t118 t120 _ A15.out).mono ?_); rintro e w' ⟨rfl, ⟨nd, rfl⟩⟩))
                go_ret
                exact ⟨by first | rfl | (simp; done) | (simp [*]; done), by repeat (first | exact Drawn0.refl _ | apply Drawn0.step)⟩
          · rw [if_neg c16] at H
            have c16b0 : (t120 == (wrap64 ((wrap64 (1 + a0)) + a1))) = false := beq_eq_false_iff_ne.mpr c16
            have c16b1 : (t120 != (wrap64 ((wrap64 (1 + a0)) + a1))) = true := bne_iff_ne.mpr c16
            obtain rfl := Option.some.inj H
            go_wp2_with (first | ((with_reducible refine gate_callee (f := 11) rfl ?_); refine goesL_ (some 41) rfl rfl Try.func11 (by kernel_rfl) rfl #[.int .i64 t111] rfl (by (try simp only [List.map_toArray, List.map_cons, List.map_nil]); first | done | rfl | (simp only [List.length_drop, List.length_take]; rfl)) ?_; (with_reducible refine (object_Parse.calls kj6 t111 t117 t118 true _ A13.out).mono ?_); rintro e w' ⟨rfl, ⟨nd, rfl⟩⟩; refine ⟨_, rfl, ?_⟩) | (go_at_call 12; (with_reducible refine (object_Size.calls kj6 t117 t118 t120 _ A15.out).mono ?_); rintro e w' ⟨rfl, ⟨nd, rfl⟩⟩))
            go_ret
            exact ⟨by first | rfl | (simp; done) | (simp [*]; done), by repeat (first | exact Drawn0.refl _ | apply Drawn0.step)⟩
        · replace c14 := Bool.eq_false_iff.mpr c14
          subst c14
          have H1 : (some false) = some r := by rw [if_neg (show ¬ (false = true) by decide)] at H; exact H
          clear H
          have H := H1
          clear H1
          obtain rfl := Option.some.inj H
          go_wp2_with (first | ((with_reducible refine gate_callee (f := 11) rfl ?_); refine goesL_ (some 41) rfl rfl Try.func11 (by kernel_rfl) rfl #[.int .i64 t111] rfl (by (try simp only [List.map_toArray, List.map_cons, List.map_nil]); first | done | rfl | (simp only [List.length_drop, List.length_take]; rfl)) ?_; (with_reducible refine (object_Parse.calls kj6 t111 t117 t118 false _ A13.out).mono ?_); rintro e w' ⟨rfl, ⟨nd, rfl⟩⟩; refine ⟨_, rfl, ?_⟩))
          go_ret
          exact ⟨by first | rfl | (simp; done) | (simp [*]; done), by repeat (first | exact Drawn0.refl _ | apply Drawn0.step)⟩

/-- THE ONE PURE STATEMENT of flittinglaw10_ObjectSizes: yours. -/
def flittinglaw10_ObjectSizes.Pure : Prop := ∀ (a0 : Int) (a1 : Int) (a2 : Int) (a3 : Int), (Lit.int .i64 a0).wf = true → (Lit.int .i64 a1).wf = true → (Lit.int .i64 a2).wf = true → (Lit.int .i64 a3).wf = true → ∃ k, flittinglaw10_ObjectSizes.f k a0 a1 a2 a3 = some true
theorem flittinglaw10_ObjectSizes.walk (P : flittinglaw10_ObjectSizes.Pure) (a0 : Int) (a1 : Int) (a2 : Int) (a3 : Int) (w : World) (w0 : (Lit.int .i64 a0).wf = true) (w1 : (Lit.int .i64 a1).wf = true) (w2 : (Lit.int .i64 a2).wf = true) (w3 : (Lit.int .i64 a3).wf = true) :
    Calls Try.prog 3 #[.int .i64 a0, .int .i64 a1, .int .i64 a2, .int .i64 a3] w fun e w' => e = .returned (.bool true) ∧ Below w.heap.size w w' := by
  obtain ⟨k, h⟩ := P a0 a1 a2 a3 w0 w1 w2 w3
  refine (flittinglaw10_ObjectSizes.calls k a0 a1 a2 a3 true w h).mono ?_
  rintro e w' ⟨rfl, hd⟩
  exact ⟨rfl, hd.below⟩

end Go.Proofs.Ytdlapjfcmhkieaa.PObjectSizes
