/- ObjectTells: for every shape, every cell and every place the statement's own function, as it is printed over numbers, answers true. -/
import Derived.Test.YtdlapjfcmhkieaaPObjectTellsx2
namespace Go.Proofs.Ytdlapjfcmhkieaa.Pure
open Go.RowKit Go.Proofs.Ytdlapjfcmhkieaa.PObjectTells Go.Proofs.YtdlapjfcmhkieaaW.PrintWords Go.Proofs.YtdlapjfcmhkieaaW.PrintLast

theorem os_header_yes (k : Nat) (a b : Int) (h0 : 0 ≤ a) (h1 : a ≤ 15) (h2 : 0 ≤ b) (h3 : b ≤ 30) :
    object_Header.f (k + 1) a b = some (16777216 + 256 * a + b, true) := by
  unfold object_Header.f
  rw [if_neg (by omega)]
  simp only [object_Header.j0]
  rw [if_neg (by simp; omega), if_neg (by omega), if_neg (by omega)]
  congr 2
  unfold wrap64; omega

theorem os_header_no (k : Nat) (a b : Int) (h : ¬ (0 ≤ a ∧ a ≤ 15 ∧ 0 ≤ b ∧ b ≤ 30)) :
    object_Header.f (k + 1) a b = some (0, false) := by
  unfold object_Header.f
  by_cases h0 : a < 0
  · rw [if_pos h0]; simp only [object_Header.j0, if_true]
  · rw [if_neg h0]
    simp only [object_Header.j0]
    by_cases h1 : a > 15
    · rw [if_pos (by simpa using h1)]
    · rw [if_neg (by simpa using h1)]
      by_cases h2 : b < 0
      · rw [if_pos h2]
      · rw [if_neg h2, if_pos (by omega)]

theorem os_parse_of (k : Nat) (a b : Int) (h0 : 0 ≤ a) (h1 : a ≤ 15) (h2 : 0 ≤ b) (h3 : b ≤ 30) :
    object_Parse.f (k + 1) (16777216 + 256 * a + b) = some (a, b, true) := by
  unfold object_Parse.f
  rw [if_neg (by omega)]
  have e1 : wrap64 (16777216 + 256 * a + b - 16777216) = 256 * a + b := by unfold wrap64; omega
  have e2 : Int.tdiv (256 * a + b) 256 = a := by rw [Int.tdiv_eq_ediv_of_nonneg (by omega)]; omega
  have e3 : Int.tmod (256 * a + b) 256 = b := by rw [Int.tmod_eq_emod_of_nonneg (by omega)]; omega
  have e4 : wrap64 a = a := by unfold wrap64; omega
  rw [e1, e2, e3, e4, os_header_yes k a b h0 h1 h2 h3]
  simp

theorem os_size_yes (k : Nat) (a b : Int) (h0 : 0 ≤ a) (h1 : a ≤ 15) (h2 : 0 ≤ b) (h3 : b ≤ 30) :
    object_Size.f (k + 1) a b = some (1 + a + b) := by
  unfold object_Size.f
  rw [os_header_yes k a b h0 h1 h2 h3]
  simp only [Option.bind_some, if_true]
  congr 1
  unfold wrap64; omega

theorem os_alive (k : Nat) : flittinglaw10_alive.f (k + 1) = some true := by
  unfold flittinglaw10_alive.f
  rw [os_header_yes k 2 3 (by omega) (by omega) (by omega) (by omega)]
  simp only [Option.bind_some]
  have h := os_parse_of k 2 3 (by omega) (by omega) (by omega) (by omega)
  rw [h]
  simp only [Option.bind_some, if_true]
  rw [os_size_yes k 2 3 (by omega) (by omega) (by omega) (by omega)]
  rfl


/-- What a header is: found back from the cell. -/
theorem os_parse_small (k : Nat) (v : Int) (h : v < 16777216) : object_Parse.f k v = some (0, 0, false) := by
  unfold object_Parse.f
  rw [if_pos h]

theorem os_parse_any (k : Nat) (v : Int) (hv : v < 9223372036854775808) (h : 16777216 ≤ v) :
    object_Parse.f (k + 1) v = if (v - 16777216) / 256 ≤ 15 ∧ (v - 16777216) % 256 ≤ 30 then some ((v - 16777216) / 256, (v - 16777216) % 256, true) else some (0, 0, false) := by
  unfold object_Parse.f
  rw [if_neg (by omega)]
  have e1 : wrap64 (v - 16777216) = v - 16777216 := by unfold wrap64; omega
  have e2 : Int.tdiv (v - 16777216) 256 = (v - 16777216) / 256 := Int.tdiv_eq_ediv_of_nonneg (by omega)
  have e3 : Int.tmod (v - 16777216) 256 = (v - 16777216) % 256 := Int.tmod_eq_emod_of_nonneg (by omega)
  have e4 : wrap64 ((v - 16777216) / 256) = (v - 16777216) / 256 := by unfold wrap64; omega
  rw [e1, e2, e3, e4]
  by_cases h1 : (v - 16777216) / 256 ≤ 15 ∧ (v - 16777216) % 256 ≤ 30
  · rw [if_pos h1, os_header_yes k _ _ (by omega) h1.1 (by omega) h1.2]
    simp only [Option.bind_some, if_true]
  · rw [if_neg h1, os_header_no k _ _ (by omega)]
    simp only [Option.bind_some, Bool.false_eq_true, if_false]

theorem os_forwarded (v : Int) (hv : v < 9223372036854775808) :
    object_Forwarded.f v = if 33554433 ≤ v ∧ v ≤ 33654432 then some (v - 33554432, true) else some (0, false) := by
  unfold object_Forwarded.f
  by_cases h0 : v < 33554432
  · rw [if_pos h0, if_neg (by omega)]
  · rw [if_neg h0]
    have e1 : wrap64 (v - 33554432) = v - 33554432 := by unfold wrap64; omega
    rw [e1]
    by_cases h1 : v - 33554432 < 1
    · rw [if_pos h1, if_neg (by omega)]
    · rw [if_neg h1]
      by_cases h2 : v - 33554432 > 100000
      · rw [if_pos h2, if_neg (by omega)]
      · rw [if_neg h2, if_pos (by omega)]

theorem os_wf (v : Int) (h : (Lit.int .i64 v).wf = true) : -9223372036854775808 ≤ v ∧ v < 9223372036854775808 := by
  have h1 : IntKind.i64.min = -9223372036854775808 := by rfl
  have h2 : IntKind.i64.max = 9223372036854775807 := by rfl
  simp only [Lit.wf, h1, h2, Bool.and_eq_true, decide_eq_true_eq] at h
  omega


theorem os_rheader (a b : Int) : flittingref10_Header.f a b = if 0 ≤ a ∧ a ≤ 15 ∧ 0 ≤ b ∧ b ≤ 30 then some (16777216 + 256 * a + b, true) else some (0, false) := by
  unfold flittingref10_Header.f
  by_cases h0 : a < 0
  · rw [if_pos h0, if_neg (by omega)]
  · rw [if_neg h0]
    by_cases h1 : a > 15
    · rw [if_pos h1, if_neg (by omega)]
    · rw [if_neg h1]
      by_cases h2 : b < 0
      · rw [if_pos h2, if_neg (by omega)]
      · rw [if_neg h2]
        by_cases h3 : b > 30
        · rw [if_pos h3, if_neg (by omega)]
        · rw [if_neg h3, if_pos (by omega)]
          congr 2
          unfold wrap64; omega

theorem os_header (k : Nat) (a b : Int) : object_Header.f (k + 1) a b = if 0 ≤ a ∧ a ≤ 15 ∧ 0 ≤ b ∧ b ≤ 30 then some (16777216 + 256 * a + b, true) else some (0, false) := by
  by_cases h : 0 ≤ a ∧ a ≤ 15 ∧ 0 ≤ b ∧ b ≤ 30
  · rw [if_pos h, os_header_yes k a b h.1 h.2.1 h.2.2.1 h.2.2.2]
  · rw [if_neg h, os_header_no k a b h]

theorem os_parse (k : Nat) (v : Int) (hv : v < 9223372036854775808) :
    object_Parse.f (k + 1) v = if 16777216 ≤ v ∧ (v - 16777216) / 256 ≤ 15 ∧ (v - 16777216) % 256 ≤ 30 then some ((v - 16777216) / 256, (v - 16777216) % 256, true) else some (0, 0, false) := by
  by_cases h : v < 16777216
  · rw [os_parse_small _ v h, if_neg (by omega)]
  · rw [os_parse_any k v hv (by omega)]
    by_cases h1 : (v - 16777216) / 256 ≤ 15 ∧ (v - 16777216) % 256 ≤ 30
    · rw [if_pos h1, if_pos (by omega)]
    · rw [if_neg h1, if_neg (by omega)]

theorem os_rparse (k : Nat) (v : Int) (hv : v < 9223372036854775808) :
    flittingref10_Parse.f (k + 1) v = if 16777216 ≤ v ∧ (v - 16777216) / 256 ≤ 15 ∧ (v - 16777216) % 256 ≤ 30 then some ((v - 16777216) / 256, (v - 16777216) % 256, true) else some (0, 0, false) := by
  unfold flittingref10_Parse.f
  by_cases h : v < 16777216
  · rw [if_pos h, if_neg (by omega)]; simp only [flittingref10_Parse.j0, if_true]
  · rw [if_neg h]
    simp only [flittingref10_Parse.j0]
    by_cases h9 : v ≥ 33554432
    · rw [if_pos (by simpa using h9), if_neg (by omega)]
    · rw [if_neg (by simpa using h9)]
      have e1 : wrap64 (v - 16777216) = v - 16777216 := by unfold wrap64; omega
      have e2 : Int.tdiv (v - 16777216) 256 = (v - 16777216) / 256 := Int.tdiv_eq_ediv_of_nonneg (by omega)
      have e3 : Int.tmod (v - 16777216) 256 = (v - 16777216) % 256 := Int.tmod_eq_emod_of_nonneg (by omega)
      have e4 : wrap64 ((v - 16777216) / 256) = (v - 16777216) / 256 := by unfold wrap64; omega
      rw [e1, e2, e3, e4, os_rheader]
      by_cases h1 : (v - 16777216) / 256 ≤ 15 ∧ (v - 16777216) % 256 ≤ 30
      · rw [if_pos (by omega), if_pos (by omega)]
        simp only [Option.bind_some, if_true]
        rw [if_pos (by omega)]
      · rw [if_neg (by omega), if_neg (by omega)]
        simp only [Option.bind_some, Bool.false_eq_true, if_false]

theorem os_rforwarded (v : Int) (h0 : -9223372036854775808 ≤ v) (hv : v < 9223372036854775808) :
    flittingref10_Forwarded.f v = if 33554433 ≤ v ∧ v ≤ 33654432 then some (v - 33554432, true) else some (0, false) := by
  unfold flittingref10_Forwarded.f
  have e1 : wrap64 (v - 33554432) = v - 33554432 ∨ 100000 < wrap64 (v - 33554432) ∧ v < 0 := by unfold wrap64; omega
  rcases e1 with e1 | e1
  · rw [e1]
    by_cases h1 : v - 33554432 < 1
    · rw [if_pos h1, if_neg (by omega)]
    · rw [if_neg h1]
      by_cases h2 : v - 33554432 > 100000
      · rw [if_pos h2, if_neg (by omega)]
      · rw [if_neg h2, if_pos (by omega)]
  · rw [if_neg (by omega), if_pos (by omega), if_neg (by omega)]

theorem os_forward (a : Int) : object_Forward.f a = if 1 ≤ a ∧ a ≤ 100000 then some (33554432 + a, true) else some (0, false) := by
  unfold object_Forward.f
  by_cases h1 : a < 1
  · rw [if_pos h1, if_neg (by omega)]
  · rw [if_neg h1]
    by_cases h2 : a > 100000
    · rw [if_pos h2, if_neg (by omega)]
    · rw [if_neg h2, if_pos (by omega)]
      congr 2
      unfold wrap64; omega

theorem os_size (k : Nat) (a b : Int) : object_Size.f (k + 1) a b = if 0 ≤ a ∧ a ≤ 15 ∧ 0 ≤ b ∧ b ≤ 30 then some (1 + a + b) else some 0 := by
  by_cases h : 0 ≤ a ∧ a ≤ 15 ∧ 0 ≤ b ∧ b ≤ 30
  · rw [if_pos h, os_size_yes k a b h.1 h.2.1 h.2.2.1 h.2.2.2]
  · rw [if_neg h]
    unfold object_Size.f
    rw [os_header_no k a b h]
    simp only [Option.bind_some, Bool.false_eq_true, if_false]

theorem ot_j2 (k : Nat) (a : Int) : flittinglaw10_ObjectTells.j2 (k + 2) a (if 1 ≤ a ∧ a ≤ 100000 then 33554432 + a else 0) (decide (1 ≤ a ∧ a ≤ 100000)) (decide (¬ (1 ≤ a ∧ a ≤ 100000))) = some true := by
  simp only [flittinglaw10_ObjectTells.j2]
  by_cases h : 1 ≤ a ∧ a ≤ 100000
  · have h' : decide (1 ≤ a ∧ a ≤ 100000) = true := by simpa using h
    rw [if_neg (by simpa using h), h', if_pos h]
    rw [os_forwarded _ (by omega), os_parse k _ (by omega), if_pos (by omega)]
    simp only [Option.bind_some, if_true]
    have e : wrap64 (33554432 + a) = 33554432 + a := by unfold wrap64; omega
    rw [e, if_neg (by omega)]
    simp only [Option.bind_some]
    rw [if_pos True.intro, if_pos (by omega)]
    rfl
  · have h' : decide (1 ≤ a ∧ a ≤ 100000) = false := by simpa using h
    rw [if_pos (decide_eq_true h), h', if_neg h]
    rfl

theorem ot_j1 (k : Nat) (a : Int) : flittinglaw10_ObjectTells.j1 (k + 3) a (if 1 ≤ a ∧ a ≤ 100000 then 33554432 + a else 0) (decide (1 ≤ a ∧ a ≤ 100000)) false = some true := by
  have h := ot_j2 k a
  simp only [flittinglaw10_ObjectTells.j1, Bool.false_eq_true, if_false]
  by_cases h1 : a < 1
  · rw [if_pos h1]
    have e : decide (¬ (1 ≤ a ∧ a ≤ 100000)) = true := by simp; omega
    rw [e] at h; exact h
  · rw [if_neg h1]
    have e : decide (¬ (1 ≤ a ∧ a ≤ 100000)) = decide (a > 100000) := by simp; omega
    rw [e] at h; exact h

theorem ObjectTells : flittinglaw10_ObjectTells.Pure := by
  intro x y v a _ _ hv _
  obtain ⟨hv0, hv⟩ := os_wf v hv
  refine ⟨4, ?_⟩
  unfold flittinglaw10_ObjectTells.f
  rw [os_alive 3, os_header 3, os_rheader, os_parse 3 v hv, os_rparse 3 v hv]
  simp only [Option.bind_some, if_true]
  have hw : 0 ≤ x ∧ x ≤ 15 ∧ 0 ≤ y ∧ y ≤ 30 → wrap64 (wrap64 (1 + x) + y) = 1 + x + y := by intro h; unfold wrap64; omega
  have hf := os_forward a
  have hfw := os_forwarded v hv
  have hrf := os_rforwarded v hv0 hv
  have hj := ot_j1 0 a
  have hfa : object_Forward.f a = some ((if 1 ≤ a ∧ a ≤ 100000 then 33554432 + a else 0), decide (1 ≤ a ∧ a ≤ 100000)) := by
    rw [hf]; by_cases h : 1 ≤ a ∧ a ≤ 100000 <;> simp [h]
  generalize (if 1 ≤ a ∧ a ≤ 100000 then 33554432 + a else 0) = fa at hj hfa
  generalize decide (1 ≤ a ∧ a ≤ 100000) = fb at hj hfa
  by_cases h1 : 0 ≤ x ∧ x ≤ 15 ∧ 0 ≤ y ∧ y ≤ 30
  · rw [if_pos h1, hw h1]
    by_cases h2 : 16777216 ≤ v ∧ (v - 16777216) / 256 ≤ 15 ∧ (v - 16777216) % 256 ≤ 30
    · rw [if_pos h2]
      rw [if_neg (by omega)] at hfw hrf
      simp only [Option.bind_some, if_true, flittinglaw10_ObjectTells.j0, hfa, hfw, hrf]
      rw [os_size 2, if_pos h1]
      simp [hj]
    · rw [if_neg h2]
      simp only [Option.bind_some, if_true, flittinglaw10_ObjectTells.j0, hfa, hfw, hrf]
      rw [os_size 2, if_pos h1]
      by_cases h3 : 33554433 ≤ v ∧ v ≤ 33654432
      · simp [h3, hj]
      · simp [h3, hj]
  · rw [if_neg h1]
    by_cases h2 : 16777216 ≤ v ∧ (v - 16777216) / 256 ≤ 15 ∧ (v - 16777216) % 256 ≤ 30
    · rw [if_pos h2]
      rw [if_neg (by omega)] at hfw hrf
      simp only [Option.bind_some, if_true, flittinglaw10_ObjectTells.j0, hfa, hfw, hrf]
      rw [os_size 2, if_neg h1]
      simp [hj]
    · rw [if_neg h2]
      simp only [Option.bind_some, if_true, flittinglaw10_ObjectTells.j0, hfa, hfw, hrf]
      rw [os_size 2, if_neg h1]
      by_cases h3 : 33554433 ≤ v ∧ v ≤ 33654432
      · simp [h3, hj]
      · simp [h3, hj]

end Go.Proofs.Ytdlapjfcmhkieaa.Pure
