/- What code.Target comes to. -/
import Derived.Test.YtdlapjfcmhkieaaDoorVerPlain
import Derived.Test.YtdlapjfcmhkieaaDoorProg
namespace Go.Proofs.YtdlapjfcmhkieaaDoor.Ver
open Go.RowKit Go.Proofs.YtdlapjfcmhkieaaDoor.Base
set_option linter.unusedVariables false
set_option linter.unusedSimpArgs false

theorem insInfo : (Tryd.prog.info? 28).map (fun i => (i.zero, i.size, i.bytes)) = some (some (.agg #[.int .i64 0, .int .i64 0, .int .i64 0, .int .i64 0]), 4, 32) := by kernel_rfl

set_option maxHeartbeats 1000000 in
theorem target_any (op a b c : Int) (w : World) : Calls Tryd.prog 14 #[.agg #[.int .i64 op, .int .i64 a, .int .i64 b, .int .i64 c]] w fun e w' =>
    e = .returned (.tuple #[.int .i64 (if op = 5 ∨ op = 6 then tgt b c else 0), .bool (decide (op = 5 ∨ op = 6))]) ∧ Below w.heap.size w w' := by
  by_cases h : op = 5 ∨ op = 6
  · rw [if_pos h, decide_eq_true h]
    rcases h with rfl | rfl
    all_goals
      go_enter Tryd.func14, Tryd.ntmps14
      go_wp2
      go_ret2
      exact ⟨rfl, (Below.refl _ _).alloc (Nat.le_refl _) _⟩
  · rw [if_neg h, decide_eq_false h]
    have b5 : (op == 5) = false := beq_eq_false_iff_ne.mpr (by omega)
    have b6 : (op == 6) = false := beq_eq_false_iff_ne.mpr (by omega)
    clear h
    go_enter Tryd.func14, Tryd.ntmps14
    go_wp2
    go_ret2
    exact ⟨rfl, (Below.refl _ _).alloc (Nat.le_refl _) _⟩

theorem target_no (op a b c : Int) (h : ¬ (op = 5 ∨ op = 6)) (w : World) : Calls Tryd.prog 14 #[.agg #[.int .i64 op, .int .i64 a, .int .i64 b, .int .i64 c]] w fun e w' =>
    e = .returned (.tuple #[.int .i64 0, .bool false]) ∧ Below w.heap.size w w' := by
  refine (target_any op a b c w).mono ?_
  rintro e w' ⟨rfl, hb⟩
  rw [if_neg h, decide_eq_false h]
  exact ⟨rfl, hb⟩
theorem target_yes (op a b c : Int) (h : op = 5 ∨ op = 6) (w : World) : Calls Tryd.prog 14 #[.agg #[.int .i64 op, .int .i64 a, .int .i64 b, .int .i64 c]] w fun e w' =>
    e = .returned (.tuple #[.int .i64 (tgt b c), .bool true]) ∧ Below w.heap.size w w' := by
  refine (target_any op a b c w).mono ?_
  rintro e w' ⟨rfl, hb⟩
  rw [if_pos h, decide_eq_true h]
  exact ⟨rfl, hb⟩

end Go.Proofs.YtdlapjfcmhkieaaDoor.Ver
