/- ObjectKinds: for every cell the statement's own function, as it is printed over numbers, answers true. -/
import Derived.Test.YtdlapjfcmhkieaaPObjectKindsx1
namespace Go.Proofs.Ytdlapjfcmhkieaa.Pure
open Go.RowKit Go.Proofs.Ytdlapjfcmhkieaa.PObjectKinds Go.Proofs.YtdlapjfcmhkieaaW.PrintWords Go.Proofs.YtdlapjfcmhkieaaW.PrintLast

theorem os_header_yes (k : Nat) (a b : Int) (h0 : 0 ≤ a) (h1 : a ≤ 15) (h2 : 0 ≤ b) (h3 : b ≤ 30) :
    object_Header.f (k + 1) a b = some (16777216 + 256 * a + b, true) := by
  unfold object_Header.f
  rw [if_neg (by omega)]
  simp only [object_Header.j0]
  rw [if_neg (by simp; omega), if_neg (by omega), if_neg (by omega)]
  congr 2
  unfold wrap64; omega

theorem os_header_no (k : Nat) (a b : Int) (h : ¬ (0 ≤ a ∧ a ≤ 15 ∧ 0 ≤ b ∧ b ≤ 30)) :
    object_Header.f (k + 1) a b = some (0, false) := by
  unfold object_Header.f
  by_cases h0 : a < 0
  · rw [if_pos h0]; simp only [object_Header.j0, if_true]
  · rw [if_neg h0]
    simp only [object_Header.j0]
    by_cases h1 : a > 15
    · rw [if_pos (by simpa using h1)]
    · rw [if_neg (by simpa using h1)]
      by_cases h2 : b < 0
      · rw [if_pos h2]
      · rw [if_neg h2, if_pos (by omega)]

theorem os_parse_of (k : Nat) (a b : Int) (h0 : 0 ≤ a) (h1 : a ≤ 15) (h2 : 0 ≤ b) (h3 : b ≤ 30) :
    object_Parse.f (k + 1) (16777216 + 256 * a + b) = some (a, b, true) := by
  unfold object_Parse.f
  rw [if_neg (by omega)]
  have e1 : wrap64 (16777216 + 256 * a + b - 16777216) = 256 * a + b := by unfold wrap64; omega
  have e2 : Int.tdiv (256 * a + b) 256 = a := by rw [Int.tdiv_eq_ediv_of_nonneg (by omega)]; omega
  have e3 : Int.tmod (256 * a + b) 256 = b := by rw [Int.tmod_eq_emod_of_nonneg (by omega)]; omega
  have e4 : wrap64 a = a := by unfold wrap64; omega
  rw [e1, e2, e3, e4, os_header_yes k a b h0 h1 h2 h3]
  simp

theorem os_size_yes (k : Nat) (a b : Int) (h0 : 0 ≤ a) (h1 : a ≤ 15) (h2 : 0 ≤ b) (h3 : b ≤ 30) :
    object_Size.f (k + 1) a b = some (1 + a + b) := by
  unfold object_Size.f
  rw [os_header_yes k a b h0 h1 h2 h3]
  simp only [Option.bind_some, if_true]
  congr 1
  unfold wrap64; omega

theorem os_alive (k : Nat) : flittinglaw10_alive.f (k + 1) = some true := by
  unfold flittinglaw10_alive.f
  rw [os_header_yes k 2 3 (by omega) (by omega) (by omega) (by omega)]
  simp only [Option.bind_some]
  have h := os_parse_of k 2 3 (by omega) (by omega) (by omega) (by omega)
  rw [h]
  simp only [Option.bind_some, if_true]
  rw [os_size_yes k 2 3 (by omega) (by omega) (by omega) (by omega)]
  rfl


/-- What a header is: found back from the cell. -/
theorem os_parse_small (k : Nat) (v : Int) (h : v < 16777216) : object_Parse.f k v = some (0, 0, false) := by
  unfold object_Parse.f
  rw [if_pos h]

theorem os_parse_any (k : Nat) (v : Int) (hv : v < 9223372036854775808) (h : 16777216 ≤ v) :
    object_Parse.f (k + 1) v = if (v - 16777216) / 256 ≤ 15 ∧ (v - 16777216) % 256 ≤ 30 then some ((v - 16777216) / 256, (v - 16777216) % 256, true) else some (0, 0, false) := by
  unfold object_Parse.f
  rw [if_neg (by omega)]
  have e1 : wrap64 (v - 16777216) = v - 16777216 := by unfold wrap64; omega
  have e2 : Int.tdiv (v - 16777216) 256 = (v - 16777216) / 256 := Int.tdiv_eq_ediv_of_nonneg (by omega)
  have e3 : Int.tmod (v - 16777216) 256 = (v - 16777216) % 256 := Int.tmod_eq_emod_of_nonneg (by omega)
  have e4 : wrap64 ((v - 16777216) / 256) = (v - 16777216) / 256 := by unfold wrap64; omega
  rw [e1, e2, e3, e4]
  by_cases h1 : (v - 16777216) / 256 ≤ 15 ∧ (v - 16777216) % 256 ≤ 30
  · rw [if_pos h1, os_header_yes k _ _ (by omega) h1.1 (by omega) h1.2]
    simp only [Option.bind_some, if_true]
  · rw [if_neg h1, os_header_no k _ _ (by omega)]
    simp only [Option.bind_some, Bool.false_eq_true, if_false]

theorem os_forwarded (v : Int) (hv : v < 9223372036854775808) :
    object_Forwarded.f v = if 33554433 ≤ v ∧ v ≤ 33654432 then some (v - 33554432, true) else some (0, false) := by
  unfold object_Forwarded.f
  by_cases h0 : v < 33554432
  · rw [if_pos h0, if_neg (by omega)]
  · rw [if_neg h0]
    have e1 : wrap64 (v - 33554432) = v - 33554432 := by unfold wrap64; omega
    rw [e1]
    by_cases h1 : v - 33554432 < 1
    · rw [if_pos h1, if_neg (by omega)]
    · rw [if_neg h1]
      by_cases h2 : v - 33554432 > 100000
      · rw [if_pos h2, if_neg (by omega)]
      · rw [if_neg h2, if_pos (by omega)]

theorem os_wf (v : Int) (h : (Lit.int .i64 v).wf = true) : -9223372036854775808 ≤ v ∧ v < 9223372036854775808 := by
  have h1 : IntKind.i64.min = -9223372036854775808 := by rfl
  have h2 : IntKind.i64.max = 9223372036854775807 := by rfl
  simp only [Lit.wf, h1, h2, Bool.and_eq_true, decide_eq_true_eq] at h
  omega

theorem ObjectKinds : flittinglaw10_ObjectKinds.Pure := by
  intro v hv
  obtain ⟨_, hv⟩ := os_wf v hv
  refine ⟨1, ?_⟩
  unfold flittinglaw10_ObjectKinds.f
  rw [os_alive 0, os_forwarded v hv]
  by_cases h : v < 16777216
  · rw [os_parse_small _ v h, if_neg (by omega)]
    simp
  · rw [os_parse_any 0 v hv (by omega)]
    by_cases h1 : (v - 16777216) / 256 ≤ 15 ∧ (v - 16777216) % 256 ≤ 30
    · rw [if_pos h1, if_neg (by omega)]
      simp; omega
    · rw [if_neg h1]
      by_cases h2 : 33554433 ≤ v ∧ v ≤ 33654432
      · rw [if_pos h2]; simp; omega
      · rw [if_neg h2]; simp

end Go.Proofs.Ytdlapjfcmhkieaa.Pure
