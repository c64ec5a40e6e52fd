/- ObjectSizes: for every four whole numbers the statement's own function, as it is printed over numbers, answers true. -/
import Derived.Test.YtdlapjfcmhkieaaPObjectSizesx1
namespace Go.Proofs.Ytdlapjfcmhkieaa.Pure
open Go.RowKit Go.Proofs.Ytdlapjfcmhkieaa.PObjectSizes Go.Proofs.YtdlapjfcmhkieaaW.PrintWords Go.Proofs.YtdlapjfcmhkieaaW.PrintLast

theorem os_header_yes (k : Nat) (a b : Int) (h0 : 0 ≤ a) (h1 : a ≤ 15) (h2 : 0 ≤ b) (h3 : b ≤ 30) :
    object_Header.f (k + 1) a b = some (16777216 + 256 * a + b, true) := by
  unfold object_Header.f
  rw [if_neg (by omega)]
  simp only [object_Header.j0]
  rw [if_neg (by simp; omega), if_neg (by omega), if_neg (by omega)]
  congr 2
  unfold wrap64; omega

theorem os_header_no (k : Nat) (a b : Int) (h : ¬ (0 ≤ a ∧ a ≤ 15 ∧ 0 ≤ b ∧ b ≤ 30)) :
    object_Header.f (k + 1) a b = some (0, false) := by
  unfold object_Header.f
  by_cases h0 : a < 0
  · rw [if_pos h0]; simp only [object_Header.j0, if_true]
  · rw [if_neg h0]
    simp only [object_Header.j0]
    by_cases h1 : a > 15
    · rw [if_pos (by simpa using h1)]
    · rw [if_neg (by simpa using h1)]
      by_cases h2 : b < 0
      · rw [if_pos h2]
      · rw [if_neg h2, if_pos (by omega)]

theorem os_parse_of (k : Nat) (a b : Int) (h0 : 0 ≤ a) (h1 : a ≤ 15) (h2 : 0 ≤ b) (h3 : b ≤ 30) :
    object_Parse.f (k + 1) (16777216 + 256 * a + b) = some (a, b, true) := by
  unfold object_Parse.f
  rw [if_neg (by omega)]
  have e1 : wrap64 (16777216 + 256 * a + b - 16777216) = 256 * a + b := by unfold wrap64; omega
  have e2 : Int.tdiv (256 * a + b) 256 = a := by rw [Int.tdiv_eq_ediv_of_nonneg (by omega)]; omega
  have e3 : Int.tmod (256 * a + b) 256 = b := by rw [Int.tmod_eq_emod_of_nonneg (by omega)]; omega
  have e4 : wrap64 a = a := by unfold wrap64; omega
  rw [e1, e2, e3, e4, os_header_yes k a b h0 h1 h2 h3]
  simp

theorem os_size_yes (k : Nat) (a b : Int) (h0 : 0 ≤ a) (h1 : a ≤ 15) (h2 : 0 ≤ b) (h3 : b ≤ 30) :
    object_Size.f (k + 1) a b = some (1 + a + b) := by
  unfold object_Size.f
  rw [os_header_yes k a b h0 h1 h2 h3]
  simp only [Option.bind_some, if_true]
  congr 1
  unfold wrap64; omega

theorem os_alive (k : Nat) : flittinglaw10_alive.f (k + 1) = some true := by
  unfold flittinglaw10_alive.f
  rw [os_header_yes k 2 3 (by omega) (by omega) (by omega) (by omega)]
  simp only [Option.bind_some]
  have h := os_parse_of k 2 3 (by omega) (by omega) (by omega) (by omega)
  rw [h]
  simp only [Option.bind_some, if_true]
  rw [os_size_yes k 2 3 (by omega) (by omega) (by omega) (by omega)]
  rfl

theorem ObjectSizes : flittinglaw10_ObjectSizes.Pure := by
  intro a b c d _ _ _ _
  refine ⟨2, ?_⟩
  unfold flittinglaw10_ObjectSizes.f
  by_cases h1 : 0 ≤ a ∧ a ≤ 15 ∧ 0 ≤ b ∧ b ≤ 30
  · obtain ⟨p0, p1, p2, p3⟩ := h1
    rw [os_header_yes 1 a b p0 p1 p2 p3]
    by_cases h2 : 0 ≤ c ∧ c ≤ 15 ∧ 0 ≤ d ∧ d ≤ 30
    · obtain ⟨q0, q1, q2, q3⟩ := h2
      rw [os_header_yes 1 c d q0 q1 q2 q3]
      simp only [Option.bind_some, if_true]
      rw [os_alive 1]
      simp only [Option.bind_some, flittinglaw10_ObjectSizes.j0]
      rw [if_neg (by simp), os_parse_of 0 a b p0 p1 p2 p3]
      simp only [Option.bind_some, if_true]
      rw [os_size_yes 0 a b p0 p1 p2 p3]
      simp only [Option.bind_some]
      have e1 : wrap64 (wrap64 (1 + a) + b) = 1 + a + b := by unfold wrap64; omega
      rw [e1, if_pos rfl]
      have e2 : decide (16777216 + 256 * a + b > 0) = true := by simp; omega
      rw [e2]
      by_cases h3 : a = c
      · rw [if_pos h3, if_pos]
        subst h3
        by_cases h4 : b = d
        · subst h4; simp
        · have : ¬ (16777216 + 256 * a + b = 16777216 + 256 * a + d) := by omega
          rw [beq_eq_false_iff_ne.mpr this, beq_eq_false_iff_ne.mpr h4]; rfl
      · rw [if_neg h3, if_pos]
        have : ¬ (16777216 + 256 * a + b = 16777216 + 256 * c + d) := by omega
        simp [this]
    · rw [os_header_no 1 c d h2]
      simp only [Option.bind_some, if_true, Bool.false_eq_true, if_false]
      simp only [flittinglaw10_ObjectSizes.j0, if_true]
      rw [os_alive 0]; rfl
  · rw [os_header_no 1 a b h1]
    by_cases h2 : 0 ≤ c ∧ c ≤ 15 ∧ 0 ≤ d ∧ d ≤ 30
    · obtain ⟨q0, q1, q2, q3⟩ := h2
      rw [os_header_yes 1 c d q0 q1 q2 q3]
      simp only [Option.bind_some, if_true, Bool.false_eq_true, if_false]
      simp only [flittinglaw10_ObjectSizes.j0, if_true]
      rw [os_alive 0]; rfl
    · rw [os_header_no 1 c d h2]
      simp only [Option.bind_some, Bool.false_eq_true, if_false]
      simp only [flittinglaw10_ObjectSizes.j0, if_true]
      rw [os_alive 0]; rfl

end Go.Proofs.Ytdlapjfcmhkieaa.Pure
