/- VerifyEdges: for every operation and every length the statement's own function, as it is printed over numbers, answers true. -/
import Derived.Test.YtdlapjfcmhkieaaPVerifyEdgesx3
namespace Go.Proofs.Ytdlapjfcmhkieaa.Pure
open Go.RowKit Go.Proofs.Ytdlapjfcmhkieaa.PVerifyEdges Go.Proofs.YtdlapjfcmhkieaaW.PrintWords Go.Proofs.YtdlapjfcmhkieaaW.PrintLast

def shp (op : Int) : Int × Int × Int :=
  if op = 0 ∨ op = 14 ∨ op = 15 then (1, 1, 1) else if op = 5 then (1, 0, 0) else if op = 1 ∨ op = 6 ∨ op = 7 then (2, 0, 0)
  else if op = 2 ∨ op = 3 ∨ op = 4 ∨ op = 18 then (2, 2, 2) else if op = 8 ∨ op = 9 ∨ op = 10 ∨ op = 11 then (2, 2, 0)
  else if op = 12 ∨ op = 13 then (2, 3, 1) else if op = 16 ∨ op = 19 then (2, 1, 1) else (2, 2, 1)

theorem shape_is (k : Nat) (op : Int) : verify_shape.f (k + 4) op = some (shp op) := by
  by_cases h0 : op = 0
  · subst h0; rfl
  by_cases h1 : op = 1
  · subst h1; rfl
  by_cases h2 : op = 2
  · subst h2; rfl
  by_cases h3 : op = 3
  · subst h3; rfl
  by_cases h4 : op = 4
  · subst h4; rfl
  by_cases h5 : op = 5
  · subst h5; rfl
  by_cases h6 : op = 6
  · subst h6; rfl
  by_cases h7 : op = 7
  · subst h7; rfl
  by_cases h8 : op = 8
  · subst h8; rfl
  by_cases h9 : op = 9
  · subst h9; rfl
  by_cases h10 : op = 10
  · subst h10; rfl
  by_cases h11 : op = 11
  · subst h11; rfl
  by_cases h12 : op = 12
  · subst h12; rfl
  by_cases h13 : op = 13
  · subst h13; rfl
  by_cases h14 : op = 14
  · subst h14; rfl
  by_cases h15 : op = 15
  · subst h15; rfl
  by_cases h16 : op = 16
  · subst h16; rfl
  by_cases h18 : op = 18
  · subst h18; rfl
  by_cases h19 : op = 19
  · subst h19; rfl
  unfold verify_shape.f shp
  simp only [verify_shape.j0, verify_shape.j1, verify_shape.j2, verify_shape.j3, h0, h1, h2, h3, h4, h5, h6, h7, h8, h9, h10, h11, h12, h13, h14, h15, h16, h18, h19,
    beq_eq_false_iff_ne.mpr, ne_eq, not_false_eq_true, Bool.false_eq_true, if_false, false_or]

def num (v kind : Int) : Bool := if kind = 1 then decide (v = 0) else if kind = 2 then decide (0 ≤ v ∧ v < 4) else if kind = 3 then decide (0 ≤ v ∧ v < 8) else decide (0 ≤ v ∧ v ≤ 255)

theorem number_is (v kind : Int) : verify_number.f v kind = some (num v kind) := by
  unfold verify_number.f num
  by_cases h1 : kind = 1
  · rw [if_pos h1, if_pos h1]; rfl
  rw [if_neg h1, if_neg h1]
  by_cases h2 : kind = 2
  · rw [if_pos h2, if_pos h2]; by_cases h : v ≥ 0
    · rw [if_pos h]; simp [h]
    · rw [if_neg h]; simp [h]
  rw [if_neg h2, if_neg h2]
  by_cases h3 : kind = 3
  · rw [if_pos h3, if_pos h3]; by_cases h : v ≥ 0
    · rw [if_pos h]; simp [h]
    · rw [if_neg h]; simp [h]
  rw [if_neg h3, if_neg h3]; by_cases h : v ≥ 0
  · rw [if_pos h]; simp [h]
  · rw [if_neg h]; simp [h]

def one (op a b c n : Int) : Bool :=
  decide (0 ≤ op ∧ op < 23) && (num a (shp op).1 && (num b (shp op).2.1 && num c (shp op).2.2)) && decide (op = 7 → b ≤ 15 ∧ c ≤ 30) && decide (op = 5 ∨ op = 6 → wrap64 (b + wrap64 (256 * c)) < n)

theorem one_j1 (k : Nat) (op a b c n : Int) : verify_One.j1 (k + 1) n false op a b c = some (decide (op = 7 → b ≤ 15 ∧ c ≤ 30) && decide (op = 5 ∨ op = 6 → wrap64 (b + wrap64 (256 * c)) < n)) := by
  simp only [verify_One.j1, Bool.false_eq_true, if_false, code_Target.f]
  by_cases h7 : op = 7
  · subst h7
    by_cases hb : b > 15
    · have : ¬ b ≤ 15 := by omega
      simp [hb, this]
    · have hb' : b ≤ 15 := by omega
      by_cases hc : c > 30
      · have : ¬ c ≤ 30 := by omega
        simp [hc, hb, this]
      · have hc' : c ≤ 30 := by omega
        simp [hc, hb, hb', hc']
  · by_cases h5 : op = 5
    · subst h5; simp
    · by_cases h6 : op = 6
      · subst h6; simp
      · simp [h5, h6, h7]

theorem one_is (k : Nat) (op a b c n : Int) : verify_One.f (k + 6) op a b c n = some (one op a b c n) := by
  have key : ∀ x : Bool, x = decide (¬ (0 ≤ op ∧ op < 23)) → verify_One.j0 (k + 6) n x op a b c = some (one op a b c n) := by
    intro x hx
    by_cases h : 0 ≤ op ∧ op < 23
    · have e : x = false := by rw [hx]; simpa using h
      subst e
      simp only [verify_One.j0, Bool.false_eq_true, if_false]
      rw [shape_is (k + 1) op]
      simp only [Option.bind_some, number_is]
      unfold one
      have hd : decide (0 ≤ op ∧ op < 23) = true := decide_eq_true h
      rw [hd]
      cases h1 : num a (shp op).1
      · simp [verify_One.j1]
      · cases h2 : num b (shp op).2.1
        · simp [verify_One.j1]
        · cases h3 : num c (shp op).2.2
          · simp [verify_One.j1]
          · simp only [if_true, Bool.not_true]
            rw [one_j1 (k + 4)]
            simp
    · have e : x = true := by rw [hx]; exact decide_eq_true h
      subst e
      have hd : decide (0 ≤ op ∧ op < 23) = false := decide_eq_false h
      simp [verify_One.j0, one, hd]
  unfold verify_One.f
  by_cases h : op < 0
  · rw [if_pos h]; exact key _ (by simp; omega)
  · rw [if_neg h]; exact key _ (by simp; omega)

theorem alive20 : flittinglaw20_alive.f 20 = some true := by decide +kernel
theorem alive19 : flittinglaw20_alive.f 19 = some true := by decide +kernel

theorem and255 (n : Int) (h0 : 0 ≤ n) (h1 : n ≤ 255) : Go.bits .and .i64 n 255 = n := by
  obtain ⟨m, rfl⟩ : ∃ m : Nat, n = m := ⟨n.toNat, by omega⟩
  have hm : m < 256 := by omega
  clear h0 h1
  revert m
  decide +kernel

theorem edges_j1 (op n : Int) (h0 : 0 ≤ op) (h1 : op < 23) (h2 : 1 ≤ n) (h3 : n ≤ 200) : flittinglaw20_VerifyEdges.j1 19 op n false = some true := by
  have e0 : wrap64 (n - 1) = n - 1 := by unfold wrap64; omega
  have e1 := and255 (n - 1) (by omega) (by omega)
  have e2 := and255 n (by omega) (by omega)
  have e3 : (n - 1) / 256 = 0 := by omega
  have e4 : n / 256 = 0 := by omega
  simp only [flittinglaw20_VerifyEdges.j1, Bool.false_eq_true, if_false, e0, e1, e2, e3, e4]
  have hc : op = 0 ∨ op = 1 ∨ op = 2 ∨ op = 3 ∨ op = 4 ∨ op = 5 ∨ op = 6 ∨ op = 7 ∨ op = 8 ∨ op = 9 ∨ op = 10 ∨ op = 11 ∨ op = 12 ∨ op = 13 ∨ op = 14 ∨ op = 15 ∨ op = 16 ∨ op = 17 ∨ op = 18 ∨ op = 19 ∨ op = 20 ∨ op = 21 ∨ op = 22 := by omega
  have o18 := one_is 11
  have o17 := one_is 10
  have o16 := one_is 9
  have o15 := one_is 8
  simp only [Nat.reduceAdd] at o18 o17 o16 o15
  rcases hc with rfl | rfl | rfl | rfl | rfl | rfl | rfl | rfl | rfl | rfl | rfl | rfl | rfl | rfl | rfl | rfl | rfl | rfl | rfl | rfl | rfl | rfl | rfl
  all_goals
    simp [flittinglaw20_VerifyEdges.j2, flittinglaw20_VerifyEdges.j3, flittinglaw20_VerifyEdges.j4, flittinglaw20_VerifyEdges.j5, o18, o17, o16, o15, one, shp, num]
    try (rw [show wrap64 (n - 1 + wrap64 0) = n - 1 by unfold wrap64; omega, show wrap64 (n + wrap64 0) = n by unfold wrap64; omega, if_pos (by omega)]; simp)

theorem VerifyEdges : flittinglaw20_VerifyEdges.Pure := by
  intro op n _ _
  refine ⟨20, ?_⟩
  unfold flittinglaw20_VerifyEdges.f
  have hdead : flittinglaw20_VerifyEdges.j0 20 op n true = some true := by
    simp only [flittinglaw20_VerifyEdges.j0, if_true, alive19]; rfl
  by_cases h0 : op < 0
  · rw [if_pos h0]; exact hdead
  by_cases h1 : op ≥ 23
  · rw [if_neg h0, if_pos h1]; exact hdead
  by_cases h2 : n < 1
  · rw [if_neg h0, if_neg h1, if_pos h2]; exact hdead
  by_cases h3 : n > 200
  · rw [if_neg h0, if_neg h1, if_neg h2, if_pos h3]; exact hdead
  rw [if_neg h0, if_neg h1, if_neg h2, if_neg h3, alive20]
  simp only [Option.bind_some, Bool.not_true, flittinglaw20_VerifyEdges.j0, Bool.false_eq_true, if_false]
  have o := one_is 13
  simp only [Nat.reduceAdd] at o
  have w1 : one op 256 0 0 n = false := by
    have : num 256 (shp op).1 = false := by unfold num; repeat (split <;> try rfl)
    simp [one, this]
  have w2 : one op 0 0 (-1) n = false := by
    have : num (-1) (shp op).2.2 = false := by unfold num; repeat (split <;> try rfl)
    simp [one, this]
  have w3 : one op 4 0 0 n = false := by
    have : num 4 (shp op).1 = false := by
      have hs : (shp op).1 = 1 ∨ (shp op).1 = 2 := by
        unfold shp
        repeat' split
        all_goals simp
      rcases hs with hs | hs <;> rw [hs] <;> rfl
    simp [one, this]
  rw [o, w1, o, w2, o, w3]
  simp only [Option.bind_some, Bool.false_eq_true, if_false]
  exact edges_j1 op n (by omega) (by omega) (by omega) (by omega)

end Go.Proofs.Ytdlapjfcmhkieaa.Pure
