-- PRINTED BY print.sh 35421559b90ae4d0a3588c463048766b98c2df88dd9212a6774a882060cdf62d: not written by this session
import Derived.Test.YtdlapjfcmhkieaaPObjectTellsx0
import Derived.Test.YtdlapjfcmhkieaaPObjectTellsx1
namespace Go.Proofs.Ytdlapjfcmhkieaa.PObjectTells
open Go.RowKit Go.Proofs.YtdlapjfcmhkieaaW.PrintWords Go.Proofs.YtdlapjfcmhkieaaW.PrintLast Go.Proofs.YtdlapjfcmhkieaaW.PrintMore
attribute [local go_sem] max2_int min2_int max_two min_two max_three min_three max_four min_four   -- for this text's walks alone
set_option linter.unusedVariables false
set_option linter.unusedSimpArgs false

/-! ### flittinglaw10_ObjectTells: function 5 -/
mutual
def flittinglaw10_ObjectTells.j0 : Nat → Int → Int → Int → Int → Int → Bool → Int → Bool → Int → Int → Bool → Int → Int → Bool → Int → Option (Bool)
  | 0, _, _, _, _, _, _, _, _, _, _, _, _, _, _, _ => none
  | k + 1, x0, x1, x2, x3, x9, x10, x11, x12, x13, x14, x15, x16, x17, x18, x19 => (object_Forward.f x3).bind fun bt124 => ((object_Forwarded.f x2).bind fun bt126 => ((flittingref10_Forwarded.f x2).bind fun bt128 => (if x9 = x11 then (if (x10 != x12) = true then (flittinglaw10_ObjectTells.j1 k x3 bt124.1 bt124.2 true) else (if x13 = x16 then (if x14 = x17 then (if (x15 != x18) = true then (flittinglaw10_ObjectTells.j1 k x3 bt124.1 bt124.2 true) else ((object_Size.f k x0 x1).bind fun t130 => (if t130 = x19 then (if bt126.1 = bt128.1 then (if (bt126.2 != bt128.2) = true then (flittinglaw10_ObjectTells.j1 k x3 bt124.1 bt124.2 true) else (if x15 = true then (flittinglaw10_ObjectTells.j1 k x3 bt124.1 bt124.2 bt126.2) else (flittinglaw10_ObjectTells.j1 k x3 bt124.1 bt124.2 false))) else (flittinglaw10_ObjectTells.j1 k x3 bt124.1 bt124.2 true)) else (flittinglaw10_ObjectTells.j1 k x3 bt124.1 bt124.2 true)))) else (flittinglaw10_ObjectTells.j1 k x3 bt124.1 bt124.2 true)) else (flittinglaw10_ObjectTells.j1 k x3 bt124.1 bt124.2 true))) else (flittinglaw10_ObjectTells.j1 k x3 bt124.1 bt124.2 true))))
def flittinglaw10_ObjectTells.j1 : Nat → Int → Int → Bool → Bool → Option (Bool)
  | 0, _, _, _, _ => none
  | k + 1, x3, x20, x21, x122 => if x122 = true then (some false) else (if x3 < 1 then (flittinglaw10_ObjectTells.j2 k x3 x20 x21 true) else (flittinglaw10_ObjectTells.j2 k x3 x20 x21 (decide (x3 > 100000))))
def flittinglaw10_ObjectTells.j2 : Nat → Int → Int → Bool → Bool → Option (Bool)
  | 0, _, _, _, _ => none
  | k + 1, x3, x20, x21, x128 => if x128 = true then (if x21 = true then (some false) else (some (x20 == 0))) else ((object_Forwarded.f x20).bind fun bt131 => ((object_Parse.f k x20).bind fun bt133 => (if x21 = true then (if x20 = (wrap64 (33554432 + x3)) then (if bt131.2 = true then (if bt131.1 = x3 then (some (!bt133.2.2)) else (some false)) else (some false)) else (some false)) else (some false))))
end
def flittinglaw10_ObjectTells.f (k : Nat) (a0 : Int) (a1 : Int) (a2 : Int) (a3 : Int) : Option (Bool) := (flittinglaw10_alive.f k).bind fun t113 => (if t113 = true then ((object_Header.f k a0 a1).bind fun bt114 => ((flittingref10_Header.f a0 a1).bind fun bt116 => ((object_Parse.f k a2).bind fun bt118 => ((flittingref10_Parse.f k a2).bind fun bt121 => (if bt116.2 = true then (flittinglaw10_ObjectTells.j0 k a0 a1 a2 a3 bt114.1 bt114.2 bt116.1 bt116.2 bt118.1 bt118.2.1 bt118.2.2 bt121.1 bt121.2.1 bt121.2.2 (wrap64 ((wrap64 (1 + a0)) + a1))) else (flittinglaw10_ObjectTells.j0 k a0 a1 a2 a3 bt114.1 bt114.2 bt116.1 bt116.2 bt118.1 bt118.2.1 bt118.2.2 bt121.1 bt121.2.1 bt121.2.2 0)))))) else (some false))
theorem flittinglaw10_ObjectTells.mono_l : ∀ k, (∀ y0 y1 y2 y3 y4 y5 y6 y7 y8 y9 y10 y11 y12 y13 y14, LeO (flittinglaw10_ObjectTells.j0 k y0 y1 y2 y3 y4 y5 y6 y7 y8 y9 y10 y11 y12 y13 y14) (flittinglaw10_ObjectTells.j0 (k + 1) y0 y1 y2 y3 y4 y5 y6 y7 y8 y9 y10 y11 y12 y13 y14)) ∧ (∀ y0 y1 y2 y3, LeO (flittinglaw10_ObjectTells.j1 k y0 y1 y2 y3) (flittinglaw10_ObjectTells.j1 (k + 1) y0 y1 y2 y3)) ∧ (∀ y0 y1 y2 y3, LeO (flittinglaw10_ObjectTells.j2 k y0 y1 y2 y3) (flittinglaw10_ObjectTells.j2 (k + 1) y0 y1 y2 y3))
  | 0 => ⟨fun _ _ _ _ _ _ _ _ _ _ _ _ _ _ _ r h => by simp [flittinglaw10_ObjectTells.j0] at h, fun _ _ _ _ r h => by simp [flittinglaw10_ObjectTells.j1] at h, fun _ _ _ _ r h => by simp [flittinglaw10_ObjectTells.j2] at h⟩
  | k + 1 => by
    obtain ⟨ih0, ih1, ih2⟩ := flittinglaw10_ObjectTells.mono_l k
    refine ⟨?_, ?_, ?_⟩
    · intro y0 y1 y2 y3 y4 y5 y6 y7 y8 y9 y10 y11 y12 y13 y14
      unfold flittinglaw10_ObjectTells.j0
      repeat' first
      | (with_reducible exact ih0 _ _ _ _ _ _ _ _ _ _ _ _ _ _ _)
      | (with_reducible exact ih1 _ _ _ _)
      | (with_reducible exact ih2 _ _ _ _)
      | (with_reducible exact flittinglaw10_alive.mono _)
      | (with_reducible exact flittingref10_Parse.mono _ _)
      | (with_reducible exact object_Header.mono _ _ _)
      | (with_reducible exact object_Parse.mono _ _)
      | (with_reducible exact object_Size.mono _ _ _)
      | (with_reducible exact LeO.refl _)
      | (with_reducible exact LeO.none _)
      | (with_reducible refine LeO.ite ?_ ?_)
      | (with_reducible refine LeO.bind ?_ (fun _ => ?_))
      | exact ih0 _ _ _ _ _ _ _ _ _ _ _ _ _ _ _
      | exact ih1 _ _ _ _
      | exact ih2 _ _ _ _
      | exact flittinglaw10_alive.mono _
      | exact flittingref10_Parse.mono _ _
      | exact object_Header.mono _ _ _
      | exact object_Parse.mono _ _
      | exact object_Size.mono _ _ _
      | exact LeO.none _
      | refine LeO.ite ?_ ?_
      | refine LeO.bind ?_ (fun _ => ?_)
    · intro y0 y1 y2 y3
      unfold flittinglaw10_ObjectTells.j1
      repeat' first
      | (with_reducible exact ih0 _ _ _ _ _ _ _ _ _ _ _ _ _ _ _)
      | (with_reducible exact ih1 _ _ _ _)
      | (with_reducible exact ih2 _ _ _ _)
      | (with_reducible exact flittinglaw10_alive.mono _)
      | (with_reducible exact flittingref10_Parse.mono _ _)
      | (with_reducible exact object_Header.mono _ _ _)
      | (with_reducible exact object_Parse.mono _ _)
      | (with_reducible exact object_Size.mono _ _ _)
      | (with_reducible exact LeO.refl _)
      | (with_reducible exact LeO.none _)
      | (with_reducible refine LeO.ite ?_ ?_)
      | (with_reducible refine LeO.bind ?_ (fun _ => ?_))
      | exact ih0 _ _ _ _ _ _ _ _ _ _ _ _ _ _ _
      | exact ih1 _ _ _ _
      | exact ih2 _ _ _ _
      | exact flittinglaw10_alive.mono _
      | exact flittingref10_Parse.mono _ _
      | exact object_Header.mono _ _ _
      | exact object_Parse.mono _ _
      | exact object_Size.mono _ _ _
      | exact LeO.none _
      | refine LeO.ite ?_ ?_
      | refine LeO.bind ?_ (fun _ => ?_)
    · intro y0 y1 y2 y3
      unfold flittinglaw10_ObjectTells.j2
      repeat' first
      | (with_reducible exact ih0 _ _ _ _ _ _ _ _ _ _ _ _ _ _ _)
      | (with_reducible exact ih1 _ _ _ _)
      | (with_reducible exact ih2 _ _ _ _)
      | (with_reducible exact flittinglaw10_alive.mono _)
      | (with_reducible exact flittingref10_Parse.mono _ _)
      | (with_reducible exact object_Header.mono _ _ _)
      | (with_reducible exact object_Parse.mono _ _)
      | (with_reducible exact object_Size.mono _ _ _)
      | (with_reducible exact LeO.refl _)
      | (with_reducible exact LeO.none _)
      | (with_reducible refine LeO.ite ?_ ?_)
      | (with_reducible refine LeO.bind ?_ (fun _ => ?_))
      | exact ih0 _ _ _ _ _ _ _ _ _ _ _ _ _ _ _
      | exact ih1 _ _ _ _
      | exact ih2 _ _ _ _
      | exact flittinglaw10_alive.mono _
      | exact flittingref10_Parse.mono _ _
      | exact object_Header.mono _ _ _
      | exact object_Parse.mono _ _
      | exact object_Size.mono _ _ _
      | exact LeO.none _
      | refine LeO.ite ?_ ?_
      | refine LeO.bind ?_ (fun _ => ?_)
theorem flittinglaw10_ObjectTells.mono : ∀ a0 a1 a2 a3 k, LeO (flittinglaw10_ObjectTells.f k a0 a1 a2 a3) (flittinglaw10_ObjectTells.f (k + 1) a0 a1 a2 a3) := by
  intro a0 a1 a2 a3 k
  obtain ⟨ih0, ih1, ih2⟩ := flittinglaw10_ObjectTells.mono_l k
  unfold flittinglaw10_ObjectTells.f
  repeat' first
      | (with_reducible exact ih0 _ _ _ _ _ _ _ _ _ _ _ _ _ _ _)
      | (with_reducible exact ih1 _ _ _ _)
      | (with_reducible exact ih2 _ _ _ _)
      | (with_reducible exact flittinglaw10_alive.mono _)
      | (with_reducible exact flittingref10_Parse.mono _ _)
      | (with_reducible exact object_Header.mono _ _ _)
      | (with_reducible exact object_Parse.mono _ _)
      | (with_reducible exact object_Size.mono _ _ _)
      | (with_reducible exact LeO.refl _)
      | (with_reducible exact LeO.none _)
      | (with_reducible refine LeO.ite ?_ ?_)
      | (with_reducible refine LeO.bind ?_ (fun _ => ?_))
      | exact ih0 _ _ _ _ _ _ _ _ _ _ _ _ _ _ _
      | exact ih1 _ _ _ _
      | exact ih2 _ _ _ _
      | exact flittinglaw10_alive.mono _
      | exact flittingref10_Parse.mono _ _
      | exact object_Header.mono _ _ _
      | exact object_Parse.mono _ _
      | exact object_Size.mono _ _ _
      | exact LeO.none _
      | refine LeO.ite ?_ ?_
      | refine LeO.bind ?_ (fun _ => ?_)
set_option maxHeartbeats 8000000 in
set_option maxRecDepth 100000 in
theorem flittinglaw10_ObjectTells.calls (k : Nat) (a0 : Int) (a1 : Int) (a2 : Int) (a3 : Int) (r : Bool) (w : World) (h : flittinglaw10_ObjectTells.f k a0 a1 a2 a3 = some r) :
    Calls Try.prog 5 #[.int .i64 a0, .int .i64 a1, .int .i64 a2, .int .i64 a3] w fun e w' => e = .returned (.bool r) ∧ Drawn0 w w' := by
  have H : ((flittinglaw10_alive.f k).bind fun t113 => (if t113 = true then ((object_Header.f k a0 a1).bind fun bt114 => ((flittingref10_Header.f a0 a1).bind fun bt116 => ((object_Parse.f k a2).bind fun bt118 => ((flittingref10_Parse.f k a2).bind fun bt121 => (if bt116.2 = true then (flittinglaw10_ObjectTells.j0 k a0 a1 a2 a3 bt114.1 bt114.2 bt116.1 bt116.2 bt118.1 bt118.2.1 bt118.2.2 bt121.1 bt121.2.1 bt121.2.2 (wrap64 ((wrap64 (1 + a0)) + a1))) else (flittinglaw10_ObjectTells.j0 k a0 a1 a2 a3 bt114.1 bt114.2 bt116.1 bt116.2 bt118.1 bt118.2.1 bt118.2.2 bt121.1 bt121.2.1 bt121.2.2 0)))))) else (some false))) = some r := h
  clear h
  replace H := Option.bind_eq_some_iff.mp H
  obtain ⟨t113, A50, H⟩ := H
  replace H : (if t113 = true then ((object_Header.f k a0 a1).bind fun bt114 => ((flittingref10_Header.f a0 a1).bind fun bt116 => ((object_Parse.f k a2).bind fun bt118 => ((flittingref10_Parse.f k a2).bind fun bt121 => (if bt116.2 = true then (flittinglaw10_ObjectTells.j0 k a0 a1 a2 a3 bt114.1 bt114.2 bt116.1 bt116.2 bt118.1 bt118.2.1 bt118.2.2 bt121.1 bt121.2.1 bt121.2.2 (wrap64 ((wrap64 (1 + a0)) + a1))) else (flittinglaw10_ObjectTells.j0 k a0 a1 a2 a3 bt114.1 bt114.2 bt116.1 bt116.2 bt118.1 bt118.2.1 bt118.2.2 bt121.1 bt121.2.1 bt121.2.2 0)))))) else (some false)) = some r := H
  have A5 := Aside0.mk A50
  clear A50
  by_cases c6 : t113 = true
  · subst c6
    have H1 : ((object_Header.f k a0 a1).bind fun bt114 => ((flittingref10_Header.f a0 a1).bind fun bt116 => ((object_Parse.f k a2).bind fun bt118 => ((flittingref10_Parse.f k a2).bind fun bt121 => (if bt116.2 = true then (flittinglaw10_ObjectTells.j0 k a0 a1 a2 a3 bt114.1 bt114.2 bt116.1 bt116.2 bt118.1 bt118.2.1 bt118.2.2 bt121.1 bt121.2.1 bt121.2.2 (wrap64 ((wrap64 (1 + a0)) + a1))) else (flittinglaw10_ObjectTells.j0 k a0 a1 a2 a3 bt114.1 bt114.2 bt116.1 bt116.2 bt118.1 bt118.2.1 bt118.2.2 bt121.1 bt121.2.1 bt121.2.2 0)))))) = some r := by rw [if_pos rfl] at H; exact H
    clear H
    have H := H1
    clear H1
    replace H := Option.bind_eq_some_iff.mp H
    obtain ⟨⟨t114, t115⟩, A70, H⟩ := H
    replace H : ((flittingref10_Header.f a0 a1).bind fun bt116 => ((object_Parse.f k a2).bind fun bt118 => ((flittingref10_Parse.f k a2).bind fun bt121 => (if bt116.2 = true then (flittinglaw10_ObjectTells.j0 k a0 a1 a2 a3 t114 t115 bt116.1 bt116.2 bt118.1 bt118.2.1 bt118.2.2 bt121.1 bt121.2.1 bt121.2.2 (wrap64 ((wrap64 (1 + a0)) + a1))) else (flittinglaw10_ObjectTells.j0 k a0 a1 a2 a3 t114 t115 bt116.1 bt116.2 bt118.1 bt118.2.1 bt118.2.2 bt121.1 bt121.2.1 bt121.2.2 0))))) = some r := H
    have A7 := Aside0.mk A70
    clear A70
    replace H := Option.bind_eq_some_iff.mp H
    obtain ⟨⟨t116, t117⟩, A80, H⟩ := H
    replace H : ((object_Parse.f k a2).bind fun bt118 => ((flittingref10_Parse.f k a2).bind fun bt121 => (if t117 = true then (flittinglaw10_ObjectTells.j0 k a0 a1 a2 a3 t114 t115 t116 t117 bt118.1 bt118.2.1 bt118.2.2 bt121.1 bt121.2.1 bt121.2.2 (wrap64 ((wrap64 (1 + a0)) + a1))) else (flittinglaw10_ObjectTells.j0 k a0 a1 a2 a3 t114 t115 t116 t117 bt118.1 bt118.2.1 bt118.2.2 bt121.1 bt121.2.1 bt121.2.2 0)))) = some r := H
    have A8 := Aside0.mk A80
    clear A80
    replace H := Option.bind_eq_some_iff.mp H
    obtain ⟨⟨t118, t119, t120⟩, A90, H⟩ := H
    replace H : ((flittingref10_Parse.f k a2).bind fun bt121 => (if t117 = true then (flittinglaw10_ObjectTells.j0 k a0 a1 a2 a3 t114 t115 t116 t117 t118 t119 t120 bt121.1 bt121.2.1 bt121.2.2 (wrap64 ((wrap64 (1 + a0)) + a1))) else (flittinglaw10_ObjectTells.j0 k a0 a1 a2 a3 t114 t115 t116 t117 t118 t119 t120 bt121.1 bt121.2.1 bt121.2.2 0))) = some r := H
    have A9 := Aside0.mk A90
    clear A90
    replace H := Option.bind_eq_some_iff.mp H
    obtain ⟨⟨t121, t122, t123⟩, A100, H⟩ := H
    replace H : (if t117 = true then (flittinglaw10_ObjectTells.j0 k a0 a1 a2 a3 t114 t115 t116 t117 t118 t119 t120 t121 t122 t123 (wrap64 ((wrap64 (1 + a0)) + a1))) else (flittinglaw10_ObjectTells.j0 k a0 a1 a2 a3 t114 t115 t116 t117 t118 t119 t120 t121 t122 t123 0)) = some r := H
    have A10 := Aside0.mk A100
    clear A100
    have HC11 := Aside0.mk H
    clear H
    go_enter Try.func5, Try.ntmps5
    go_upto_if 57 with (first | ((with_reducible refine gate_callee (f := 10) rfl ?_); refine goesL_ (some 31) rfl rfl Try.func10 (by kernel_rfl) rfl #[] rfl (by (try simp only [List.map_toArray, List.map_cons, List.map_nil]); first | done | rfl | (simp only [List.length_drop, List.length_take]; rfl)) ?_; (with_reducible refine (flittinglaw10_alive.calls k  true _ A5.out).mono ?_); rintro e w' ⟨rfl, ⟨nd, rfl⟩⟩; refine ⟨_, rfl, ?_⟩) | ((with_reducible refine gate_callee (f := 9) rfl ?_); refine goesL_ (some 36) rfl rfl Try.func9 (by kernel_rfl) rfl #[.int .i64 a0, .int .i64 a1] rfl (by (try simp only [List.map_toArray, List.map_cons, List.map_nil]); first | done | rfl | (simp only [List.length_drop, List.length_take]; rfl)) ?_; (with_reducible refine (object_Header.calls k a0 a1 t114 t115 _ A7.out).mono ?_); rintro e w' ⟨rfl, ⟨nd, rfl⟩⟩; refine ⟨_, rfl, ?_⟩) | ((with_reducible refine gate_callee (f := 14) rfl ?_); refine goesL_ (some 42) rfl rfl Try.func14 (by kernel_rfl) rfl #[.int .i64 a0, .int .i64 a1] rfl (by (try simp only [List.map_toArray, List.map_cons, List.map_nil]); first | done | rfl | (simp only [List.length_drop, List.length_take]; rfl)) ?_; (with_reducible refine (flittingref10_Header.calls a0 a1 t116 t117 _ A8.out).mono ?_); rintro e w' ⟨rfl, ⟨nd, rfl⟩⟩; refine ⟨_, rfl, ?_⟩) | ((with_reducible refine gate_callee (f := 11) rfl ?_); refine goesL_ (some 47) rfl rfl Try.func11 (by kernel_rfl) rfl #[.int .i64 a2] rfl (by (try simp only [List.map_toArray, List.map_cons, List.map_nil]); first | done | rfl | (simp only [List.length_drop, List.length_take]; rfl)) ?_; (with_reducible refine (object_Parse.calls k a2 t118 t119 t120 _ A9.out).mono ?_); rintro e w' ⟨rfl, ⟨nd, rfl⟩⟩; refine ⟨_, rfl, ?_⟩) | ((with_reducible refine gate_callee (f := 15) rfl ?_); refine goesL_ (some 53) rfl rfl Try.func15 (by kernel_rfl) rfl #[.int .i64 a2] rfl (by (try simp only [List.map_toArray, List.map_cons, List.map_nil]); first | done | rfl | (simp only [List.length_drop, List.length_take]; rfl)) ?_; (with_reducible refine (flittingref10_Parse.calls k a2 t121 t122 t123 _ A10.out).mono ?_); rintro e w' ⟨rfl, ⟨nd, rfl⟩⟩; refine ⟨_, rfl, ?_⟩))
    (try simp only [Act.put, List.setIfInBounds_toArray, List.set_cons_zero, List.set_cons_succ])
    go_cut [19] (fun v19 wc => ∃ (kq : Nat) (x19_10 : Int), v19 = .int .i64 x19_10 ∧ Aside0 (flittinglaw10_ObjectTells.j0 kq a0 a1 a2 a3 t114 t115 t116 t117 t118 t119 t120 t121 t122 t123 x19_10 = some r) ∧ Aside0 (kq ≤ k) ∧ Drawn0 w wc)
    case first =>
      have H := HC11.out
      clear HC11
      by_cases c12 : t117 = true
      · subst c12
        have H1 : (flittinglaw10_ObjectTells.j0 k a0 a1 a2 a3 t114 t115 t116 true t118 t119 t120 t121 t122 t123 (wrap64 ((wrap64 (1 + a0)) + a1))) = some r := by rw [if_pos rfl] at H; exact H
        clear H
        have H := H1
        clear H1
        have H' := Aside0.mk H
        clear H
        go_wp2
        go_meet
        case rel => exact ⟨_, (wrap64 ((wrap64 (1 + a0)) + a1)), (by first | rfl | (simp; done) | (simp [*]; done)), H', ⟨by first | omega | exact Nat.le_refl _⟩, by repeat (first | exact Drawn0.refl _ | apply Drawn0.step)⟩
      · replace c12 := Bool.eq_false_iff.mpr c12
        subst c12
        have H1 : (flittinglaw10_ObjectTells.j0 k a0 a1 a2 a3 t114 t115 t116 false t118 t119 t120 t121 t122 t123 0) = some r := by rw [if_neg (show ¬ (false = true) by decide)] at H; exact H
        clear H
        have H := H1
        clear H1
        have H' := Aside0.mk H
        clear H
        go_wp2
        go_meet
        case rel => exact ⟨_, (0), (by first | rfl | (simp; done) | (simp [*]; done)), H', ⟨by first | omega | exact Nat.le_refl _⟩, by repeat (first | exact Drawn0.refl _ | apply Drawn0.step)⟩
    case rest =>
      clear HC11
      try clear c1
      try clear p2
      try clear c5
      try clear c6
      try clear p6
      try clear c9
      try clear c10
      try clear c11
      try clear c12
      obtain ⟨kq, x19_10, rfl, HA, HJ10, ⟨mc10, rfl⟩⟩ := hcut
      cases kq with
      | zero => exact absurd HA.out (by simp [flittinglaw10_ObjectTells.j0])
      | succ kj10 =>
        have H := HA.out
        clear HA
        simp only [flittinglaw10_ObjectTells.j0] at H
        replace H := Option.bind_eq_some_iff.mp H
        obtain ⟨⟨t124, t125⟩, A130, H⟩ := H
        replace H : ((object_Forwarded.f a2).bind fun bt126 => ((flittingref10_Forwarded.f a2).bind fun bt128 => (if t114 = t116 then (if (t115 != t117) = true then (flittinglaw10_ObjectTells.j1 kj10 a3 t124 t125 true) else (if t118 = t121 then (if t119 = t122 then (if (t120 != t123) = true then (flittinglaw10_ObjectTells.j1 kj10 a3 t124 t125 true) else ((object_Size.f kj10 a0 a1).bind fun t130 => (if t130 = x19_10 then (if bt126.1 = bt128.1 then (if (bt126.2 != bt128.2) = true then (flittinglaw10_ObjectTells.j1 kj10 a3 t124 t125 true) else (if t120 = true then (flittinglaw10_ObjectTells.j1 kj10 a3 t124 t125 bt126.2) else (flittinglaw10_ObjectTells.j1 kj10 a3 t124 t125 false))) else (flittinglaw10_ObjectTells.j1 kj10 a3 t124 t125 true)) else (flittinglaw10_ObjectTells.j1 kj10 a3 t124 t125 true)))) else (flittinglaw10_ObjectTells.j1 kj10 a3 t124 t125 true)) else (flittinglaw10_ObjectTells.j1 kj10 a3 t124 t125 true))) else (flittinglaw10_ObjectTells.j1 kj10 a3 t124 t125 true)))) = some r := H
        have A13 := Aside0.mk A130
        clear A130
        replace H := Option.bind_eq_some_iff.mp H
        obtain ⟨⟨t126, t127⟩, A140, H⟩ := H
        replace H : ((flittingref10_Forwarded.f a2).bind fun bt128 => (if t114 = t116 then (if (t115 != t117) = true then (flittinglaw10_ObjectTells.j1 kj10 a3 t124 t125 true) else (if t118 = t121 then (if t119 = t122 then (if (t120 != t123) = true then (flittinglaw10_ObjectTells.j1 kj10 a3 t124 t125 true) else ((object_Size.f kj10 a0 a1).bind fun t130 => (if t130 = x19_10 then (if t126 = bt128.1 then (if (t127 != bt128.2) = true then (flittinglaw10_ObjectTells.j1 kj10 a3 t124 t125 true) else (if t120 = true then (flittinglaw10_ObjectTells.j1 kj10 a3 t124 t125 t127) else (flittinglaw10_ObjectTells.j1 kj10 a3 t124 t125 false))) else (flittinglaw10_ObjectTells.j1 kj10 a3 t124 t125 true)) else (flittinglaw10_ObjectTells.j1 kj10 a3 t124 t125 true)))) else (flittinglaw10_ObjectTells.j1 kj10 a3 t124 t125 true)) else (flittinglaw10_ObjectTells.j1 kj10 a3 t124 t125 true))) else (flittinglaw10_ObjectTells.j1 kj10 a3 t124 t125 true))) = some r := H
        have A14 := Aside0.mk A140
        clear A140
        replace H := Option.bind_eq_some_iff.mp H
        obtain ⟨⟨t128, t129⟩, A150, H⟩ := H
        replace H : (if t114 = t116 then (if (t115 != t117) = true then (flittinglaw10_ObjectTells.j1 kj10 a3 t124 t125 true) else (if t118 = t121 then (if t119 = t122 then (if (t120 != t123) = true then (flittinglaw10_ObjectTells.j1 kj10 a3 t124 t125 true) else ((object_Size.f kj10 a0 a1).bind fun t130 => (if t130 = x19_10 then (if t126 = t128 then (if (t127 != t129) = true then (flittinglaw10_ObjectTells.j1 kj10 a3 t124 t125 true) else (if t120 = true then (flittinglaw10_ObjectTells.j1 kj10 a3 t124 t125 t127) else (flittinglaw10_ObjectTells.j1 kj10 a3 t124 t125 false))) else (flittinglaw10_ObjectTells.j1 kj10 a3 t124 t125 true)) else (flittinglaw10_ObjectTells.j1 kj10 a3 t124 t125 true)))) else (flittinglaw10_ObjectTells.j1 kj10 a3 t124 t125 true)) else (flittinglaw10_ObjectTells.j1 kj10 a3 t124 t125 true))) else (flittinglaw10_ObjectTells.j1 kj10 a3 t124 t125 true)) = some r := H
        have A15 := Aside0.mk A150
        clear A150
        have HC16 := Aside0.mk H
        clear H
        go_upto_region 13 with (first | ((with_reducible refine gate_callee (f := 16) rfl ?_); refine goesL_ (some 64) rfl rfl Try.func16 (by kernel_rfl) rfl #[.int .i64 a3] rfl (by (try simp only [List.map_toArray, List.map_cons, List.map_nil]); first | done | rfl | (simp only [List.length_drop, List.length_take]; rfl)) ?_; (with_reducible refine (object_Forward.calls a3 t124 t125 _ A13.out).mono ?_); rintro e w' ⟨rfl, ⟨nd, rfl⟩⟩; refine ⟨_, rfl, ?_⟩) | ((with_reducible refine gate_callee (f := 13) rfl ?_); refine goesL_ (some 69) rfl rfl Try.func13 (by kernel_rfl) rfl #[.int .i64 a2] rfl (by (try simp only [List.map_toArray, List.map_cons, List.map_nil]); first | done | rfl | (simp only [List.length_drop, List.length_take]; rfl)) ?_; (with_reducible refine (object_Forwarded.calls a2 t126 t127 _ A14.out).mono ?_); rintro e w' ⟨rfl, ⟨nd, rfl⟩⟩; refine ⟨_, rfl, ?_⟩) | ((with_reducible refine gate_callee (f := 17) rfl ?_); refine goesL_ (some 74) rfl rfl Try.func17 (by kernel_rfl) rfl #[.int .i64 a2] rfl (by (try simp only [List.map_toArray, List.map_cons, List.map_nil]); first | done | rfl | (simp only [List.length_drop, List.length_take]; rfl)) ?_; (with_reducible refine (flittingref10_Forwarded.calls a2 t128 t129 _ A15.out).mono ?_); rintro e w' ⟨rfl, ⟨nd, rfl⟩⟩; refine ⟨_, rfl, ?_⟩))
        (try simp only [Act.put, List.setIfInBounds_toArray, List.set_cons_zero, List.set_cons_succ])
        go_cut [122] (fun v122 wc => ∃ (kq : Nat) (x122_15 : Bool), v122 = .bool x122_15 ∧ Aside0 (flittinglaw10_ObjectTells.j1 kq a3 t124 t125 x122_15 = some r) ∧ Aside0 (kq ≤ kj10) ∧ Drawn0 w wc)
        case first =>
          have H := HC16.out
          clear HC16
          by_cases c17 : t114 = t116
          · rw [if_pos c17] at H
            have c17b0 : (t114 == t116) = true := beq_iff_eq.mpr c17
            have c17b1 : (t114 != t116) = false := bne_eq_false_iff_eq.mpr c17
            clear c17
            (first | rw [c17b0] | (simp only [i64_w, i32_w]; rw [c17b0]) | skip)
            by_cases c18 : (t115 != t117) = true
            · rw [if_pos c18] at H
              have c18b0 : (t115 != t117) = true := c18
              (try (have c18b1 : decide (t115 = t117) = false := by simpa using c18))
              (try (have c18b2 : (t115 == t117) = false := by simpa using c18))
              (try (have c18b3 : ¬ (t115 = t117) := by simpa using c18))
              clear c18
              have H' := Aside0.mk H
              clear H
              go_wp2
              go_meet
              case rel => exact ⟨_, (true), (by first | rfl | (simp; done) | (simp [*]; done)), H', ⟨by have := HJ10.out; first | omega | exact Nat.le_refl _⟩, by repeat (first | exact Drawn0.refl _ | apply Drawn0.step)⟩
            · rw [if_neg c18] at H
              have c18b0 : (t115 != t117) = false := by simpa using c18
              (try (have c18b1 : decide (t115 = t117) = true := by simpa using c18))
              (try (have c18b2 : (t115 == t117) = true := by simpa using c18))
              clear c18
              by_cases c19 : t118 = t121
              · rw [if_pos c19] at H
                have c19b0 : (t118 == t121) = true := beq_iff_eq.mpr c19
                have c19b1 : (t118 != t121) = false := bne_eq_false_iff_eq.mpr c19
                clear c19
                by_cases c20 : t119 = t122
                · rw [if_pos c20] at H
                  have c20b0 : (t119 == t122) = true := beq_iff_eq.mpr c20
                  have c20b1 : (t119 != t122) = false := bne_eq_false_iff_eq.mpr c20
                  clear c20
                  by_cases c21 : (t120 != t123) = true
                  · rw [if_pos c21] at H
                    have c21b0 : (t120 != t123) = true := c21
                    (try (have c21b1 : decide (t120 = t123) = false := by simpa using c21))
                    (try (have c21b2 : (t120 == t123) = false := by simpa using c21))
                    (try (have c21b3 : ¬ (t120 = t123) := by simpa using c21))
                    clear c21
                    have H' := Aside0.mk H
                    clear H
                    go_wp2
                    go_meet
                    case rel => exact ⟨_, (true), (by first | rfl | (simp; done) | (simp [*]; done)), H', ⟨by have := HJ10.out; first | omega | exact Nat.le_refl _⟩, by repeat (first | exact Drawn0.refl _ | apply Drawn0.step)⟩
                  · rw [if_neg c21] at H
                    have c21b0 : (t120 != t123) = false := by simpa using c21
                    (try (have c21b1 : decide (t120 = t123) = true := by simpa using c21))
                    (try (have c21b2 : (t120 == t123) = true := by simpa using c21))
                    clear c21
                    replace H := Option.bind_eq_some_iff.mp H
                    obtain ⟨t130, A220, H⟩ := H
                    replace H : (if t130 = x19_10 then (if t126 = t128 then (if (t127 != t129) = true then (flittinglaw10_ObjectTells.j1 kj10 a3 t124 t125 true) else (if t120 = true then (flittinglaw10_ObjectTells.j1 kj10 a3 t124 t125 t127) else (flittinglaw10_ObjectTells.j1 kj10 a3 t124 t125 false))) else (flittinglaw10_ObjectTells.j1 kj10 a3 t124 t125 true)) else (flittinglaw10_ObjectTells.j1 kj10 a3 t124 t125 true)) = some r := H
                    have A22 := Aside0.mk A220
                    clear A220
                    by_cases c23 : t130 = x19_10
                    · rw [if_pos c23] at H
                      have c23b0 : (t130 == x19_10) = true := beq_iff_eq.mpr c23
                      have c23b1 : (t130 != x19_10) = false := bne_eq_false_iff_eq.mpr c23
                      clear c23
                      by_cases c24 : t126 = t128
                      · rw [if_pos c24] at H
                        have c24b0 : (t126 == t128) = true := beq_iff_eq.mpr c24
                        have c24b1 : (t126 != t128) = false := bne_eq_false_iff_eq.mpr c24
                        clear c24
                        by_cases c25 : (t127 != t129) = true
                        · rw [if_pos c25] at H
                          have c25b0 : (t127 != t129) = true := c25
                          (try (have c25b1 : decide (t127 = t129) = false := by simpa using c25))
                          (try (have c25b2 : (t127 == t129) = false := by simpa using c25))
                          (try (have c25b3 : ¬ (t127 = t129) := by simpa using c25))
                          clear c25
                          have H' := Aside0.mk H
                          clear H
                          go_wp2_with (first | (go_at_call 12; (with_reducible refine (object_Size.calls kj10 a0 a1 t130 _ A22.out).mono ?_); rintro e w' ⟨rfl, ⟨nd, rfl⟩⟩))
                          go_meet
                          case rel => exact ⟨_, (true), (by first | rfl | (simp; done) | (simp [*]; done)), H', ⟨by have := HJ10.out; first | omega | exact Nat.le_refl _⟩, by repeat (first | exact Drawn0.refl _ | apply Drawn0.step)⟩
                        · rw [if_neg c25] at H
                          have c25b0 : (t127 != t129) = false := by simpa using c25
                          (try (have c25b1 : decide (t127 = t129) = true := by simpa using c25))
                          (try (have c25b2 : (t127 == t129) = true := by simpa using c25))
                          clear c25
                          by_cases c26 : t120 = true
                          · subst c26
                            have H1 : (flittinglaw10_ObjectTells.j1 kj10 a3 t124 t125 t127) = some r := by rw [if_pos rfl] at H; exact H
                            clear H
                            have H := H1
                            clear H1
                            have H' := Aside0.mk H
                            clear H
                            go_wp2_with (first | (go_at_call 12; (with_reducible refine (object_Size.calls kj10 a0 a1 t130 _ A22.out).mono ?_); rintro e w' ⟨rfl, ⟨nd, rfl⟩⟩))
                            go_meet
                            case rel => exact ⟨_, (t127), (by first | rfl | (simp; done) | (simp [*]; done)), H', ⟨by have := HJ10.out; first | omega | exact Nat.le_refl _⟩, by repeat (first | exact Drawn0.refl _ | apply Drawn0.step)⟩
                          · replace c26 := Bool.eq_false_iff.mpr c26
                            subst c26
                            have H1 : (flittinglaw10_ObjectTells.j1 kj10 a3 t124 t125 false) = some r := by rw [if_neg (show ¬ (false = true) by decide)] at H; exact H
                            clear H
                            have H := H1
                            clear H1
                            have H' := Aside0.mk H
                            clear H
                            go_wp2_with (first | (go_at_call 12; (with_reducible refine (object_Size.calls kj10 a0 a1 t130 _ A22.out).mono ?_); rintro e w' ⟨rfl, ⟨nd, rfl⟩⟩))
                            go_meet
                            case rel => exact ⟨_, (false), (by first | rfl | (simp; done) | (simp [*]; done)), H', ⟨by have := HJ10.out; first | omega | exact Nat.le_refl _⟩, by repeat (first | exact Drawn0.refl _ | apply Drawn0.step)⟩
                      · rw [if_neg c24] at H
                        have c24b0 : (t126 == t128) = false := beq_eq_false_iff_ne.mpr c24
                        have c24b1 : (t126 != t128) = true := bne_iff_ne.mpr c24
                        have H' := Aside0.mk H
                        clear H
                        go_wp2_with (first | (go_at_call 12; (with_reducible refine (object_Size.calls kj10 a0 a1 t130 _ A22.out).mono ?_); rintro e w' ⟨rfl, ⟨nd, rfl⟩⟩))
                        go_meet
                        case rel => exact ⟨_, (true), (by first | rfl | (simp; done) | (simp [*]; done)), H', ⟨by have := HJ10.out; first | omega | exact Nat.le_refl _⟩, by repeat (first | exact Drawn0.refl _ | apply Drawn0.step)⟩
                    · rw [if_neg c23] at H
                      have c23b0 : (t130 == x19_10) = false := beq_eq_false_iff_ne.mpr c23
                      have c23b1 : (t130 != x19_10) = true := bne_iff_ne.mpr c23
                      have H' := Aside0.mk H
                      clear H
                      go_wp2_with (first | (go_at_call 12; (with_reducible refine (object_Size.calls kj10 a0 a1 t130 _ A22.out).mono ?_); rintro e w' ⟨rfl, ⟨nd, rfl⟩⟩))
                      go_meet
                      case rel => exact ⟨_, (true), (by first | rfl | (simp; done) | (simp [*]; done)), H', ⟨by have := HJ10.out; first | omega | exact Nat.le_refl _⟩, by repeat (first | exact Drawn0.refl _ | apply Drawn0.step)⟩
                · rw [if_neg c20] at H
                  have c20b0 : (t119 == t122) = false := beq_eq_false_iff_ne.mpr c20
                  have c20b1 : (t119 != t122) = true := bne_iff_ne.mpr c20
                  have H' := Aside0.mk H
                  clear H
                  go_wp2
                  go_meet
                  case rel => exact ⟨_, (true), (by first | rfl | (simp; done) | (simp [*]; done)), H', ⟨by have := HJ10.out; first | omega | exact Nat.le_refl _⟩, by repeat (first | exact Drawn0.refl _ | apply Drawn0.step)⟩
              · rw [if_neg c19] at H
                have c19b0 : (t118 == t121) = false := beq_eq_false_iff_ne.mpr c19
                have c19b1 : (t118 != t121) = true := bne_iff_ne.mpr c19
                have H' := Aside0.mk H
                clear H
                go_wp2
                go_meet
                case rel => exact ⟨_, (true), (by first | rfl | (simp; done) | (simp [*]; done)), H', ⟨by have := HJ10.out; first | omega | exact Nat.le_refl _⟩, by repeat (first | exact Drawn0.refl _ | apply Drawn0.step)⟩
          · rw [if_neg c17] at H
            have c17b0 : (t114 == t116) = false := beq_eq_false_iff_ne.mpr c17
            have c17b1 : (t114 != t116) = true := bne_iff_ne.mpr c17
            (first | rw [c17b0] | (simp only [i64_w, i32_w]; rw [c17b0]) | skip)
            have H' := Aside0.mk H
            clear H
            go_wp2
            go_meet
            case rel => exact ⟨_, (true), (by first | rfl | (simp; done) | (simp [*]; done)), H', ⟨by have := HJ10.out; first | omega | exact Nat.le_refl _⟩, by repeat (first | exact Drawn0.refl _ | apply Drawn0.step)⟩
        case rest =>
          clear HC16
          try clear c1
          try clear c2
          try clear p2
          try clear c5
          try clear c6
          try clear p6
          try clear c9
          try clear c10
          try clear c11
          try clear c12
          try clear c13
          try clear c14
          try clear c15
          try clear c16
          try clear c17
          try clear c17b0
          try clear c17b1
          try clear c18
          try clear c18b0
          try clear c18b1
          try clear c18b2
          try clear c19
          try clear c19b0
          try clear c19b1
          try clear c20
          try clear c20b0
          try clear c20b1
          try clear c21
          try clear c21b0
          try clear c21b1
          try clear c21b2
          try clear c23
          try clear c23b0
          try clear c23b1
          try clear c24
          try clear c24b0
          try clear c24b1
          try clear c25
          try clear c25b0
          try clear c25b1
          try clear c25b2
          try clear c26
          try clear p2
          try clear p6
          obtain ⟨kq, x122_15, rfl, HA, HJ15, ⟨mc15, rfl⟩⟩ := hcut
          cases kq with
          | zero => exact absurd HA.out (by simp [flittinglaw10_ObjectTells.j1])
          | succ kj15 =>
            have H := HA.out
            clear HA
            simp only [flittinglaw10_ObjectTells.j1] at H
            by_cases c27 : x122_15 = true
            · subst c27
              have H1 : (some false) = some r := by rw [if_pos rfl] at H; exact H
              clear H
              have H := H1
              clear H1
              obtain rfl := Option.some.inj H
              go_wp2
              go_ret
              exact ⟨by first | rfl | (simp; done) | (simp [*]; done), by repeat (first | exact Drawn0.refl _ | apply Drawn0.step)⟩
            · replace c27 := Bool.eq_false_iff.mpr c27
              subst c27
              have H1 : (if a3 < 1 then (flittinglaw10_ObjectTells.j2 kj15 a3 t124 t125 true) else (flittinglaw10_ObjectTells.j2 kj15 a3 t124 t125 (decide (a3 > 100000)))) = some r := by rw [if_neg (show ¬ (false = true) by decide)] at H; exact H
              clear H
              have H := H1
              clear H1
              have HC28 := Aside0.mk H
              clear H
              go_upto_region 15 with (fail)
              go_cut [128] (fun v128 wc => ∃ (kq : Nat) (x128_27 : Bool), v128 = .bool x128_27 ∧ Aside0 (flittinglaw10_ObjectTells.j2 kq a3 t124 t125 x128_27 = some r) ∧ Aside0 (kq ≤ kj15) ∧ Drawn0 w wc)
              case first =>
                have H := HC28.out
                clear HC28
                by_cases c29 : a3 < 1
                · rw [if_pos c29] at H
                  have c29b0 : decide (a3 < 1) = true := decide_eq_true c29
                  clear c29
                  (first | rw [c29b0] | (simp only [i64_w, i32_w]; rw [c29b0]) | skip)
                  have H' := Aside0.mk H
                  clear H
                  go_wp2
                  go_meet
                  case rel => exact ⟨_, (true), (by first | rfl | (simp; done) | (simp [*]; done)), H', ⟨by have := HJ10.out; have := HJ15.out; first | omega | exact Nat.le_refl _⟩, by repeat (first | exact Drawn0.refl _ | apply Drawn0.step)⟩
                · rw [if_neg c29] at H
                  have c29b0 : decide (a3 < 1) = false := decide_eq_false c29
                  clear c29
                  (first | rw [c29b0] | (simp only [i64_w, i32_w]; rw [c29b0]) | skip)
                  have H' := Aside0.mk H
                  clear H
                  go_wp2
                  go_meet
                  case rel => exact ⟨_, (decide (a3 > 100000)), (by first | rfl | (simp; done) | (simp [*]; done)), H', ⟨by have := HJ10.out; have := HJ15.out; first | omega | exact Nat.le_refl _⟩, by repeat (first | exact Drawn0.refl _ | apply Drawn0.step)⟩
              case rest =>
                clear HC28
                try clear c1
                try clear c2
                try clear p2
                try clear c5
                try clear c6
                try clear p6
                try clear c9
                try clear c10
                try clear c11
                try clear c12
                try clear c13
                try clear c14
                try clear c15
                try clear c16
                try clear c17
                try clear c17b0
                try clear c17b1
                try clear c18
                try clear c18b0
                try clear c18b1
                try clear c18b2
                try clear c19
                try clear c19b0
                try clear c19b1
                try clear c20
                try clear c20b0
                try clear c20b1
                try clear c21
                try clear c21b0
                try clear c21b1
                try clear c21b2
                try clear c23
                try clear c23b0
                try clear c23b1
                try clear c24
                try clear c24b0
                try clear c24b1
                try clear c25
                try clear c25b0
                try clear c25b1
                try clear c25b2
                try clear c26
                try clear c27
                try clear c29
                try clear c29b0
                try clear p2
                try clear p6
                obtain ⟨kq, x128_27, rfl, HA, HJ27, ⟨mc27, rfl⟩⟩ := hcut
                cases kq with
                | zero => exact absurd HA.out (by simp [flittinglaw10_ObjectTells.j2])
                | succ kj27 =>
                  have H := HA.out
                  clear HA
                  simp only [flittinglaw10_ObjectTells.j2] at H
                  by_cases c30 : x128_27 = true
                  · subst c30
                    have H1 : (if t125 = true then (some false) else (some (t124 == 0))) = some r := by rw [if_pos rfl] at H; exact H
                    clear H
                    have H := H1
                    clear H1
                    by_cases c31 : t125 = true
                    · subst c31
                      have H1 : (some false) = some r := by rw [if_pos rfl] at H; exact H
                      clear H
                      have H := H1
                      clear H1
                      obtain rfl := Option.some.inj H
                      go_wp2
                      go_ret
                      exact ⟨by first | rfl | (simp; done) | (simp [*]; done), by repeat (first | exact Drawn0.refl _ | apply Drawn0.step)⟩
                    · replace c31 := Bool.eq_false_iff.mpr c31
                      subst c31
                      have H1 : (some (t124 == 0)) = some r := by rw [if_neg (show ¬ (false = true) by decide)] at H; exact H
                      clear H
                      have H := H1
                      clear H1
                      obtain rfl := Option.some.inj H
                      go_wp2
                      go_ret
                      exact ⟨by first | rfl | (simp; done) | (simp [*]; done), by repeat (first | exact Drawn0.refl _ | apply Drawn0.step)⟩
                  · replace c30 := Bool.eq_false_iff.mpr c30
                    subst c30
                    have H1 : ((object_Forwarded.f t124).bind fun bt131 => ((object_Parse.f kj27 t124).bind fun bt133 => (if t125 = true then (if t124 = (wrap64 (33554432 + a3)) then (if bt131.2 = true then (if bt131.1 = a3 then (some (!bt133.2.2)) else (some false)) else (some false)) else (some false)) else (some false)))) = some r := by rw [if_neg (show ¬ (false = true) by decide)] at H; exact H
                    clear H
                    have H := H1
                    clear H1
                    replace H := Option.bind_eq_some_iff.mp H
                    obtain ⟨⟨t131, t132⟩, A320, H⟩ := H
                    replace H : ((object_Parse.f kj27 t124).bind fun bt133 => (if t125 = true then (if t124 = (wrap64 (33554432 + a3)) then (if t132 = true then (if t131 = a3 then (some (!bt133.2.2)) else (some false)) else (some false)) else (some false)) else (some false))) = some r := H
                    have A32 := Aside0.mk A320
                    clear A320
                    replace H := Option.bind_eq_some_iff.mp H
                    obtain ⟨⟨t133, t134, t135⟩, A330, H⟩ := H
                    replace H : (if t125 = true then (if t124 = (wrap64 (33554432 + a3)) then (if t132 = true then (if t131 = a3 then (some (!t135)) else (some false)) else (some false)) else (some false)) else (some false)) = some r := H
                    have A33 := Aside0.mk A330
                    clear A330
                    by_cases c34 : t125 = true
                    · subst c34
                      have H1 : (if t124 = (wrap64 (33554432 + a3)) then (if t132 = true then (if t131 = a3 then (some (!t135)) else (some false)) else (some false)) else (some false)) = some r := by rw [if_pos rfl] at H; exact H
                      clear H
                      have H := H1
                      clear H1
                      by_cases c35 : t124 = (wrap64 (33554432 + a3))
                      · rw [if_pos c35] at H
                        have c35b0 : (t124 == (wrap64 (33554432 + a3))) = true := beq_iff_eq.mpr c35
                        have c35b1 : (t124 != (wrap64 (33554432 + a3))) = false := bne_eq_false_iff_eq.mpr c35
                        clear c35
                        by_cases c36 : t132 = true
                        · subst c36
                          have H1 : (if t131 = a3 then (some (!t135)) else (some false)) = some r := by rw [if_pos rfl] at H; exact H
                          clear H
                          have H := H1
                          clear H1
                          by_cases c37 : t131 = a3
                          · rw [if_pos c37] at H
                            have c37b0 : (t131 == a3) = true := beq_iff_eq.mpr c37
                            have c37b1 : (t131 != a3) = false := bne_eq_false_iff_eq.mpr c37
                            clear c37
                            obtain rfl := Option.some.inj H
                            go_wp2_with (first | ((with_reducible refine gate_callee (f := 13) rfl ?_); refine goesL_ (some 137) rfl rfl Try.func13 (by kernel_rfl) rfl #[.int .i64 t124] rfl (by (try simp only [List.map_toArray, List.map_cons, List.map_nil]); first | done | rfl | (simp only [List.length_drop, List.length_take]; rfl)) ?_; (with_reducible refine (object_Forwarded.calls t124 t131 true _ A32.out).mono ?_); rintro e w' ⟨rfl, ⟨nd, rfl⟩⟩; refine ⟨_, rfl, ?_⟩) | ((with_reducible refine gate_callee (f := 11) rfl ?_); refine goesL_ (some 142) rfl rfl Try.func11 (by kernel_rfl) rfl #[.int .i64 t124] rfl (by (try simp only [List.map_toArray, List.map_cons, List.map_nil]); first | done | rfl | (simp only [List.length_drop, List.length_take]; rfl)) ?_; (with_reducible refine (object_Parse.calls kj27 t124 t133 t134 t135 _ A33.out).mono ?_); rintro e w' ⟨rfl, ⟨nd, rfl⟩⟩; refine ⟨_, rfl, ?_⟩))
                            go_ret
                            exact ⟨by first | rfl | (simp; done) | (simp [*]; done), by repeat (first | exact Drawn0.refl _ | apply Drawn0.step)⟩
                          · rw [if_neg c37] at H
                            have c37b0 : (t131 == a3) = false := beq_eq_false_iff_ne.mpr c37
                            have c37b1 : (t131 != a3) = true := bne_iff_ne.mpr c37
                            obtain rfl := Option.some.inj H
                            go_wp2_with (first | ((with_reducible refine gate_callee (f := 13) rfl ?_); refine goesL_ (some 137) rfl rfl Try.func13 (by kernel_rfl) rfl #[.int .i64 t124] rfl (by (try simp only [List.map_toArray, List.map_cons, List.map_nil]); first | done | rfl | (simp only [List.length_drop, List.length_take]; rfl)) ?_; (with_reducible refine (object_Forwarded.calls t124 t131 true _ A32.out).mono ?_); rintro e w' ⟨rfl, ⟨nd, rfl⟩⟩; refine ⟨_, rfl, ?_⟩) | ((with_reducible refine gate_callee (f := 11) rfl ?_); refine goesL_ (some 142) rfl rfl Try.func11 (by kernel_rfl) rfl #[.int .i64 t124] rfl (by (try simp only [List.map_toArray, List.map_cons, List.map_nil]); first | done | rfl | (simp only [List.length_drop, List.length_take]; rfl)) ?_; (with_reducible refine (object_Parse.calls kj27 t124 t133 t134 t135 _ A33.out).mono ?_); rintro e w' ⟨rfl, ⟨nd, rfl⟩⟩; refine ⟨_, rfl, ?_⟩))
                            go_ret
                            exact ⟨by first | rfl | (simp; done) | (simp [*]; done), by repeat (first | exact Drawn0.refl _ | apply Drawn0.step)⟩
                        · replace c36 := Bool.eq_false_iff.mpr c36
                          subst c36
                          have H1 : (some false) = some r := by rw [if_neg (show ¬ (false = true) by decide)] at H; exact H
                          clear H
                          have H := H1
                          clear H1
                          obtain rfl := Option.some.inj H
                          go_wp2_with (first | ((with_reducible refine gate_callee (f := 13) rfl ?_); refine goesL_ (some 137) rfl rfl Try.func13 (by kernel_rfl) rfl #[.int .i64 t124] rfl (by (try simp only [List.map_toArray, List.map_cons, List.map_nil]); first | done | rfl | (simp only [List.length_drop, List.length_take]; rfl)) ?_; (with_reducible refine (object_Forwarded.calls t124 t131 false _ A32.out).mono ?_); rintro e w' ⟨rfl, ⟨nd, rfl⟩⟩; refine ⟨_, rfl, ?_⟩) | ((with_reducible refine gate_callee (f := 11) rfl ?_); refine goesL_ (some 142) rfl rfl Try.func11 (by kernel_rfl) rfl #[.int .i64 t124] rfl (by (try simp only [List.map_toArray, List.map_cons, List.map_nil]); first | done | rfl | (simp only [List.length_drop, List.length_take]; rfl)) ?_; (with_reducible refine (object_Parse.calls kj27 t124 t133 t134 t135 _ A33.out).mono ?_); rintro e w' ⟨rfl, ⟨nd, rfl⟩⟩; refine ⟨_, rfl, ?_⟩))
                          go_ret
                          exact ⟨by first | rfl | (simp; done) | (simp [*]; done), by repeat (first | exact Drawn0.refl _ | apply Drawn0.step)⟩
                      · rw [if_neg c35] at H
                        have c35b0 : (t124 == (wrap64 (33554432 + a3))) = false := beq_eq_false_iff_ne.mpr c35
                        have c35b1 : (t124 != (wrap64 (33554432 + a3))) = true := bne_iff_ne.mpr c35
                        obtain rfl := Option.some.inj H
                        go_wp2_with (first | ((with_reducible refine gate_callee (f := 13) rfl ?_); refine goesL_ (some 137) rfl rfl Try.func13 (by kernel_rfl) rfl #[.int .i64 t124] rfl (by (try simp only [List.map_toArray, List.map_cons, List.map_nil]); first | done | rfl | (simp only [List.length_drop, List.length_take]; rfl)) ?_; (with_reducible refine (object_Forwarded.calls t124 t131 t132 _ A32.out).mono ?_); rintro e w' ⟨rfl, ⟨nd, rfl⟩⟩; refine ⟨_, rfl, ?_⟩) | ((with_reducible refine gate_callee (f := 11) rfl ?_); refine goesL_ (some 142) rfl rfl Try.func11 (by kernel_rfl) rfl #[.int .i64 t124] rfl (by (try simp only [List.map_toArray, List.map_cons, List.map_nil]); first | done | rfl | (simp only [List.length_drop, List.length_take]; rfl)) ?_; (with_reducible refine (object_Parse.calls kj27 t124 t133 t134 t135 _ A33.out).mono ?_); rintro e w' ⟨rfl, ⟨nd, rfl⟩⟩; refine ⟨_, rfl, ?_⟩))
                        go_ret
                        exact ⟨by first | rfl | (simp; done) | (simp [*]; done), by repeat (first | exact Drawn0.refl _ | apply Drawn0.step)⟩
                    · replace c34 := Bool.eq_false_iff.mpr c34
                      subst c34
                      have H1 : (some false) = some r := by rw [if_neg (show ¬ (false = true) by decide)] at H; exact H
                      clear H
                      have H := H1
                      clear H1
                      obtain rfl := Option.some.inj H
                      go_wp2_with (first | ((with_reducible refine gate_callee (f := 13) rfl ?_); refine goesL_ (some 137) rfl rfl Try.func13 (by kernel_rfl) rfl #[.int .i64 t124] rfl (by (try simp only [List.map_toArray, List.map_cons, List.map_nil]); first | done | rfl | (simp only [List.length_drop, List.length_take]; rfl)) ?_; (with_reducible refine (object_Forwarded.calls t124 t131 t132 _ A32.out).mono ?_); rintro e w' ⟨rfl, ⟨nd, rfl⟩⟩; refine ⟨_, rfl, ?_⟩) | ((with_reducible refine gate_callee (f := 11) rfl ?_); refine goesL_ (some 142) rfl rfl Try.func11 (by kernel_rfl) rfl #[.int .i64 t124] rfl (by (try simp only [List.map_toArray, List.map_cons, List.map_nil]); first | done | rfl | (simp only [List.length_drop, List.length_take]; rfl)) ?_; (with_reducible refine (object_Parse.calls kj27 t124 t133 t134 t135 _ A33.out).mono ?_); rintro e w' ⟨rfl, ⟨nd, rfl⟩⟩; refine ⟨_, rfl, ?_⟩))
                      go_ret
                      exact ⟨by first | rfl | (simp; done) | (simp [*]; done), by repeat (first | exact Drawn0.refl _ | apply Drawn0.step)⟩
  · replace c6 := Bool.eq_false_iff.mpr c6
    subst c6
    have H1 : (some false) = some r := by rw [if_neg (show ¬ (false = true) by decide)] at H; exact H
    clear H
    have H := H1
    clear H1
    obtain rfl := Option.some.inj H
    go_enter Try.func5, Try.ntmps5
    go_wp2_with (first | ((with_reducible refine gate_callee (f := 10) rfl ?_); refine goesL_ (some 31) rfl rfl Try.func10 (by kernel_rfl) rfl #[] rfl (by (try simp only [List.map_toArray, List.map_cons, List.map_nil]); first | done | rfl | (simp only [List.length_drop, List.length_take]; rfl)) ?_; (with_reducible refine (flittinglaw10_alive.calls k  false _ A5.out).mono ?_); rintro e w' ⟨rfl, ⟨nd, rfl⟩⟩; refine ⟨_, rfl, ?_⟩))
    go_ret
    exact ⟨by first | rfl | (simp; done) | (simp [*]; done), by repeat (first | exact Drawn0.refl _ | apply Drawn0.step)⟩

/-- THE ONE PURE STATEMENT of flittinglaw10_ObjectTells: yours. -/
def flittinglaw10_ObjectTells.Pure : Prop := ∀ (a0 : Int) (a1 : Int) (a2 : Int) (a3 : Int), (Lit.int .i64 a0).wf = true → (Lit.int .i64 a1).wf = true → (Lit.int .i64 a2).wf = true → (Lit.int .i64 a3).wf = true → ∃ k, flittinglaw10_ObjectTells.f k a0 a1 a2 a3 = some true
theorem flittinglaw10_ObjectTells.walk (P : flittinglaw10_ObjectTells.Pure) (a0 : Int) (a1 : Int) (a2 : Int) (a3 : Int) (w : World) (w0 : (Lit.int .i64 a0).wf = true) (w1 : (Lit.int .i64 a1).wf = true) (w2 : (Lit.int .i64 a2).wf = true) (w3 : (Lit.int .i64 a3).wf = true) :
    Calls Try.prog 5 #[.int .i64 a0, .int .i64 a1, .int .i64 a2, .int .i64 a3] w fun e w' => e = .returned (.bool true) ∧ Below w.heap.size w w' := by
  obtain ⟨k, h⟩ := P a0 a1 a2 a3 w0 w1 w2 w3
  refine (flittinglaw10_ObjectTells.calls k a0 a1 a2 a3 true w h).mono ?_
  rintro e w' ⟨rfl, hd⟩
  exact ⟨rfl, hd.below⟩

end Go.Proofs.Ytdlapjfcmhkieaa.PObjectTells
