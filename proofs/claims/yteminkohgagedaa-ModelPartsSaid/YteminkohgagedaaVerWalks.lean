/- What the functions of package verify come to, function by function. -/
import Derived.Test.YteminkohgagedaaTarget
namespace Go.Proofs.Yteminkohgagedaa.Ver
open Go.RowKit Go.Proofs.Yteminkohgagedaa.Base
set_option linter.unusedVariables false
set_option linter.unusedSimpArgs false

theorem number_any (v k : Int) (w : World) : Calls Try.prog 51 #[.int .i64 v, .int .i64 k] w fun e w' => e = .returned (.bool (num v k)) ∧ w = w' := by
  obtain ⟨x, hx⟩ : ∃ x, num v k = x := ⟨_, rfl⟩
  rw [hx]
  by_cases h1 : k = 1
  · subst h1
    have HX := Lib.hid hx
    clear hx
    go_enter Try.func51, Try.ntmps51
    go_wp2
    go_ret
    exact ⟨ret_bool (by rw [← HX.out]; rfl), rfl⟩
  by_cases h2 : k = 2
  · subst h2
    rcases (by omega : (0 ≤ v ∧ v < 4) ∨ v < 0 ∨ (0 ≤ v ∧ 4 ≤ v)) with ⟨ha, hb⟩ | ha | ⟨ha, hb⟩
    all_goals
      have HX := Lib.hid hx
      clear hx
      go_enter Try.func51, Try.ntmps51
      go_wp2
      go_ret
      refine ⟨ret_bool ?_, rfl⟩
      rw [← HX.out]
      simp only [num, Int.reduceEq, if_false, if_true]
      apply Eq.symm
      first | (apply decide_eq_true; omega) | (apply decide_eq_false; omega) | (apply decide_eq_decide.mpr; omega)
  by_cases h3 : k = 3
  · subst h3
    rcases (by omega : (0 ≤ v ∧ v < 8) ∨ v < 0 ∨ (0 ≤ v ∧ 8 ≤ v)) with ⟨ha, hb⟩ | ha | ⟨ha, hb⟩
    all_goals
      have HX := Lib.hid hx
      clear hx
      go_enter Try.func51, Try.ntmps51
      go_wp2
      go_ret
      refine ⟨ret_bool ?_, rfl⟩
      rw [← HX.out]
      simp only [num, Int.reduceEq, if_false, if_true]
      apply Eq.symm
      first | (apply decide_eq_true; omega) | (apply decide_eq_false; omega) | (apply decide_eq_decide.mpr; omega)
  rcases (by omega : (0 ≤ v ∧ v ≤ 255) ∨ v < 0 ∨ (0 ≤ v ∧ 255 < v)) with ⟨ha, hb⟩ | ha | ⟨ha, hb⟩
  all_goals
    have HX := Lib.hid hx
    clear hx
    go_enter Try.func51, Try.ntmps51
    go_wp2
    go_ret
    refine ⟨ret_bool ?_, rfl⟩
    rw [← HX.out]
    simp only [num, h1, h2, h3, if_false]
    apply Eq.symm
    first | (apply decide_eq_true; omega) | (apply decide_eq_false; omega) | (apply decide_eq_decide.mpr; omega)

def shpV (op : Int) : Value := .tuple #[.int .i64 (shp op).1, .int .i64 (shp op).2.1, .int .i64 (shp op).2.2]
set_option maxHeartbeats 1000000 in
theorem shape_any (op : Int) (w : World) : Calls Try.prog 50 #[.int .i64 op] w fun e w' => e = .returned (shpV op) ∧ w = w' := by
  obtain ⟨x, hx⟩ : ∃ x, shpV op = x := ⟨_, rfl⟩
  rw [hx]
  by_cases hc : op = 0 ∨ op = 1 ∨ op = 2 ∨ op = 3 ∨ op = 4 ∨ op = 5 ∨ op = 6 ∨ op = 7 ∨ op = 8 ∨ op = 9 ∨ op = 10 ∨ op = 11 ∨ op = 12 ∨ op = 13 ∨ op = 14 ∨ op = 15 ∨ op = 16 ∨ op = 18 ∨ op = 19
  · rcases hc with rfl | rfl | rfl | rfl | rfl | rfl | rfl | rfl | rfl | rfl | rfl | rfl | rfl | rfl | rfl | rfl | rfl | rfl | rfl
    all_goals
      have HX := Lib.hid hx
      clear hx
      go_enter Try.func50, Try.ntmps50
      go_wp2
      go_ret3
      exact ⟨by rw [← HX.out]; rfl, rfl⟩
  · obtain rfl : x = .tuple #[.int .i64 2, .int .i64 2, .int .i64 1] := by
      simp only [not_or] at hc
      obtain ⟨a0, a1, a2, a3, a4, a5, a6, a7, a8, a9, a10, a11, a12, a13, a14, a15, a16, a18, a19⟩ := hc
      rw [← hx]; simp only [shpV, shp, a0, a1, a2, a3, a4, a5, a6, a7, a8, a9, a10, a11, a12, a13, a14, a15, a16, a18, a19, false_or, if_false]
    clear hx
    have b0 : (op == 0) = false := beq_eq_false_iff_ne.mpr (by omega)
    have b1 : (op == 1) = false := beq_eq_false_iff_ne.mpr (by omega)
    have b2 : (op == 2) = false := beq_eq_false_iff_ne.mpr (by omega)
    have b3 : (op == 3) = false := beq_eq_false_iff_ne.mpr (by omega)
    have b4 : (op == 4) = false := beq_eq_false_iff_ne.mpr (by omega)
    have b5 : (op == 5) = false := beq_eq_false_iff_ne.mpr (by omega)
    have b6 : (op == 6) = false := beq_eq_false_iff_ne.mpr (by omega)
    have b7 : (op == 7) = false := beq_eq_false_iff_ne.mpr (by omega)
    have b8 : (op == 8) = false := beq_eq_false_iff_ne.mpr (by omega)
    have b9 : (op == 9) = false := beq_eq_false_iff_ne.mpr (by omega)
    have b10 : (op == 10) = false := beq_eq_false_iff_ne.mpr (by omega)
    have b11 : (op == 11) = false := beq_eq_false_iff_ne.mpr (by omega)
    have b12 : (op == 12) = false := beq_eq_false_iff_ne.mpr (by omega)
    have b13 : (op == 13) = false := beq_eq_false_iff_ne.mpr (by omega)
    have b14 : (op == 14) = false := beq_eq_false_iff_ne.mpr (by omega)
    have b15 : (op == 15) = false := beq_eq_false_iff_ne.mpr (by omega)
    have b16 : (op == 16) = false := beq_eq_false_iff_ne.mpr (by omega)
    have b18 : (op == 18) = false := beq_eq_false_iff_ne.mpr (by omega)
    have b19 : (op == 19) = false := beq_eq_false_iff_ne.mpr (by omega)
    clear hc
    go_enter Try.func50, Try.ntmps50
    go_wp2
    go_ret3
    exact ⟨rfl, rfl⟩

theorem shape_of {op k1 k2 k3 : Int} (h : shp op = (k1, k2, k3)) (w : World) : Calls Try.prog 50 #[.int .i64 op] w fun e w' => e = .returned (.tuple #[.int .i64 k1, .int .i64 k2, .int .i64 k3]) ∧ w = w' := by
  refine (shape_any op w).mono ?_
  rintro e w' ⟨rfl, rfl⟩
  rw [shpV, h]
  exact ⟨rfl, rfl⟩
end Go.Proofs.Yteminkohgagedaa.Ver
