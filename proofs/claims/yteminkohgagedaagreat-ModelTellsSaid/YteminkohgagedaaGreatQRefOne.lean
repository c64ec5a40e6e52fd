/- Of every instruction the reference's One answers as the plain function 'one', operation by operation. Printed by gen_refone.py, a program of this session. -/
import Derived.Test.YteminkohgagedaaGreatQVerCheck
namespace Go.Proofs.YteminkohgagedaaGreat.Ver
open Go.RowKit Go.Proofs.YteminkohgagedaaGreat.Base
set_option linter.unusedVariables false
set_option linter.unusedSimpArgs false

theorem byt_any (v : Int) (w : World) : Calls Tryz.prog 106 #[.int .i64 v] w fun e w' => e = .returned (.bool (byt v)) ∧ w = w' := by
  obtain ⟨x, hx⟩ : ∃ x, byt v = x := ⟨_, rfl⟩
  rw [hx]
  have HX := Lib.hid hx
  clear hx
  rcases (by omega : (0 ≤ v ∧ v ≤ 255) ∨ v < 0 ∨ (0 ≤ v ∧ 255 < v)) with ⟨ha, hb⟩ | ha | ⟨ha, hb⟩
  all_goals
    go_enter Tryz.func106, Tryz.ntmps106
    go_wp2
    go_ret
    refine ⟨ret_bool ?_, rfl⟩
    rw [← HX.out]
    simp only [byt]
    apply Eq.symm
    first | (apply decide_eq_true; omega) | (apply decide_eq_false; omega) | (apply decide_eq_decide.mpr; omega)

theorem rg_any (v : Int) (w : World) : Calls Tryz.prog 107 #[.int .i64 v] w fun e w' => e = .returned (.bool (rg v)) ∧ w = w' := by
  obtain ⟨x, hx⟩ : ∃ x, rg v = x := ⟨_, rfl⟩
  rw [hx]
  have HX := Lib.hid hx
  clear hx
  rcases (by omega : (0 ≤ v ∧ v < 4) ∨ v < 0 ∨ (0 ≤ v ∧ 4 ≤ v)) with ⟨ha, hb⟩ | ha | ⟨ha, hb⟩
  all_goals
    go_enter Tryz.func107, Tryz.ntmps107
    go_wp2
    go_ret
    refine ⟨ret_bool ?_, rfl⟩
    rw [← HX.out]
    simp only [rg]
    apply Eq.symm
    first | (apply decide_eq_true; omega) | (apply decide_eq_false; omega) | (apply decide_eq_decide.mpr; omega)

set_option maxRecDepth 100000 in
set_option maxHeartbeats 1000000 in
theorem rone_0 (a b c n : Int) (w : World) (h1 : byt a = true) (h2 : byt b = true) (h3 : byt c = true) :
    Calls Tryz.prog 81 #[.agg #[.int .i64 0, .int .i64 a, .int .i64 b, .int .i64 c], .int .i64 n] w fun e w' => e = .returned (.bool (one 0 a b c n)) ∧ Below w.heap.size w w' := by
  have h0 : byt 0 = true := rfl
  have HW := Lib.hid (tgt_of b c h2 h3)
  have H1 := Lib.hid (byt_iff h1)
  have H2 := Lib.hid (byt_iff h2)
  have H3 := Lib.hid (byt_iff h3)
  obtain ⟨r, hr⟩ : ∃ r, one 0 a b c n = r := ⟨_, rfl⟩
  rw [hr]
  have HR := Lib.hid hr
  clear hr
  go_enter Tryz.func81, Tryz.ntmps81
  go_wp2_with (first | (go_at_call 106; refine (byt_any _ _).mono ?_; rintro e w' ⟨rfl, rfl⟩) | (go_at_call 107; refine (rg_any _ _).mono ?_; rintro e w' ⟨rfl, rfl⟩))
  all_goals
    go_ret
    refine ⟨ret_bool ?_, (Below.refl _ _).alloc (Nat.le_refl _) _⟩
    have H1 := H1.out
    have H2 := H2.out
    have H3 := H3.out
    have HW := HW.out
    rw [← HR.out]
    clear HR
    unfold tgt at HW
    simp_all [one, shp, num, rg, tgt]
    try (first | rfl | omega)

set_option maxRecDepth 100000 in
set_option maxHeartbeats 1000000 in
theorem rone_1 (a b c n : Int) (w : World) (h1 : byt a = true) (h2 : byt b = true) (h3 : byt c = true) :
    Calls Tryz.prog 81 #[.agg #[.int .i64 1, .int .i64 a, .int .i64 b, .int .i64 c], .int .i64 n] w fun e w' => e = .returned (.bool (one 1 a b c n)) ∧ Below w.heap.size w w' := by
  have h0 : byt 1 = true := rfl
  have HW := Lib.hid (tgt_of b c h2 h3)
  have H1 := Lib.hid (byt_iff h1)
  have H2 := Lib.hid (byt_iff h2)
  have H3 := Lib.hid (byt_iff h3)
  obtain ⟨r, hr⟩ : ∃ r, one 1 a b c n = r := ⟨_, rfl⟩
  rw [hr]
  have HR := Lib.hid hr
  clear hr
  go_enter Tryz.func81, Tryz.ntmps81
  go_wp2_with (first | (go_at_call 106; refine (byt_any _ _).mono ?_; rintro e w' ⟨rfl, rfl⟩) | (go_at_call 107; refine (rg_any _ _).mono ?_; rintro e w' ⟨rfl, rfl⟩))
  all_goals
    go_ret
    refine ⟨ret_bool ?_, (Below.refl _ _).alloc (Nat.le_refl _) _⟩
    have H1 := H1.out
    have H2 := H2.out
    have H3 := H3.out
    have HW := HW.out
    rw [← HR.out]
    clear HR
    unfold tgt at HW
    simp_all [one, shp, num, rg, tgt]
    try (first | rfl | omega)

set_option maxRecDepth 100000 in
set_option maxHeartbeats 1000000 in
theorem rone_2 (a b c n : Int) (w : World) (h1 : byt a = true) (h2 : byt b = true) (h3 : byt c = true) :
    Calls Tryz.prog 81 #[.agg #[.int .i64 2, .int .i64 a, .int .i64 b, .int .i64 c], .int .i64 n] w fun e w' => e = .returned (.bool (one 2 a b c n)) ∧ Below w.heap.size w w' := by
  have h0 : byt 2 = true := rfl
  have HW := Lib.hid (tgt_of b c h2 h3)
  have H1 := Lib.hid (byt_iff h1)
  have H2 := Lib.hid (byt_iff h2)
  have H3 := Lib.hid (byt_iff h3)
  obtain ⟨r, hr⟩ : ∃ r, one 2 a b c n = r := ⟨_, rfl⟩
  rw [hr]
  have HR := Lib.hid hr
  clear hr
  go_enter Tryz.func81, Tryz.ntmps81
  go_wp2_with (first | (go_at_call 106; refine (byt_any _ _).mono ?_; rintro e w' ⟨rfl, rfl⟩) | (go_at_call 107; refine (rg_any _ _).mono ?_; rintro e w' ⟨rfl, rfl⟩))
  all_goals
    go_ret
    refine ⟨ret_bool ?_, (Below.refl _ _).alloc (Nat.le_refl _) _⟩
    have H1 := H1.out
    have H2 := H2.out
    have H3 := H3.out
    have HW := HW.out
    rw [← HR.out]
    clear HR
    unfold tgt at HW
    simp_all [one, shp, num, rg, tgt]
    try (first | rfl | omega)

set_option maxRecDepth 100000 in
set_option maxHeartbeats 1000000 in
theorem rone_3 (a b c n : Int) (w : World) (h1 : byt a = true) (h2 : byt b = true) (h3 : byt c = true) :
    Calls Tryz.prog 81 #[.agg #[.int .i64 3, .int .i64 a, .int .i64 b, .int .i64 c], .int .i64 n] w fun e w' => e = .returned (.bool (one 3 a b c n)) ∧ Below w.heap.size w w' := by
  have h0 : byt 3 = true := rfl
  have HW := Lib.hid (tgt_of b c h2 h3)
  have H1 := Lib.hid (byt_iff h1)
  have H2 := Lib.hid (byt_iff h2)
  have H3 := Lib.hid (byt_iff h3)
  obtain ⟨r, hr⟩ : ∃ r, one 3 a b c n = r := ⟨_, rfl⟩
  rw [hr]
  have HR := Lib.hid hr
  clear hr
  go_enter Tryz.func81, Tryz.ntmps81
  go_wp2_with (first | (go_at_call 106; refine (byt_any _ _).mono ?_; rintro e w' ⟨rfl, rfl⟩) | (go_at_call 107; refine (rg_any _ _).mono ?_; rintro e w' ⟨rfl, rfl⟩))
  all_goals
    go_ret
    refine ⟨ret_bool ?_, (Below.refl _ _).alloc (Nat.le_refl _) _⟩
    have H1 := H1.out
    have H2 := H2.out
    have H3 := H3.out
    have HW := HW.out
    rw [← HR.out]
    clear HR
    unfold tgt at HW
    simp_all [one, shp, num, rg, tgt]
    try (first | rfl | omega)

set_option maxRecDepth 100000 in
set_option maxHeartbeats 1000000 in
theorem rone_4 (a b c n : Int) (w : World) (h1 : byt a = true) (h2 : byt b = true) (h3 : byt c = true) :
    Calls Tryz.prog 81 #[.agg #[.int .i64 4, .int .i64 a, .int .i64 b, .int .i64 c], .int .i64 n] w fun e w' => e = .returned (.bool (one 4 a b c n)) ∧ Below w.heap.size w w' := by
  have h0 : byt 4 = true := rfl
  have HW := Lib.hid (tgt_of b c h2 h3)
  have H1 := Lib.hid (byt_iff h1)
  have H2 := Lib.hid (byt_iff h2)
  have H3 := Lib.hid (byt_iff h3)
  obtain ⟨r, hr⟩ : ∃ r, one 4 a b c n = r := ⟨_, rfl⟩
  rw [hr]
  have HR := Lib.hid hr
  clear hr
  go_enter Tryz.func81, Tryz.ntmps81
  go_wp2_with (first | (go_at_call 106; refine (byt_any _ _).mono ?_; rintro e w' ⟨rfl, rfl⟩) | (go_at_call 107; refine (rg_any _ _).mono ?_; rintro e w' ⟨rfl, rfl⟩))
  all_goals
    go_ret
    refine ⟨ret_bool ?_, (Below.refl _ _).alloc (Nat.le_refl _) _⟩
    have H1 := H1.out
    have H2 := H2.out
    have H3 := H3.out
    have HW := HW.out
    rw [← HR.out]
    clear HR
    unfold tgt at HW
    simp_all [one, shp, num, rg, tgt]
    try (first | rfl | omega)

set_option maxRecDepth 100000 in
set_option maxHeartbeats 1000000 in
theorem rone_5 (a b c n : Int) (w : World) (h1 : byt a = true) (h2 : byt b = true) (h3 : byt c = true) :
    Calls Tryz.prog 81 #[.agg #[.int .i64 5, .int .i64 a, .int .i64 b, .int .i64 c], .int .i64 n] w fun e w' => e = .returned (.bool (one 5 a b c n)) ∧ Below w.heap.size w w' := by
  have h0 : byt 5 = true := rfl
  have HW := Lib.hid (tgt_of b c h2 h3)
  have H1 := Lib.hid (byt_iff h1)
  have H2 := Lib.hid (byt_iff h2)
  have H3 := Lib.hid (byt_iff h3)
  obtain ⟨r, hr⟩ : ∃ r, one 5 a b c n = r := ⟨_, rfl⟩
  rw [hr]
  have HR := Lib.hid hr
  clear hr
  go_enter Tryz.func81, Tryz.ntmps81
  go_wp2_with (first | (go_at_call 106; refine (byt_any _ _).mono ?_; rintro e w' ⟨rfl, rfl⟩) | (go_at_call 107; refine (rg_any _ _).mono ?_; rintro e w' ⟨rfl, rfl⟩))
  all_goals
    go_ret
    refine ⟨ret_bool ?_, (Below.refl _ _).alloc (Nat.le_refl _) _⟩
    have H1 := H1.out
    have H2 := H2.out
    have H3 := H3.out
    have HW := HW.out
    rw [← HR.out]
    clear HR
    unfold tgt at HW
    simp_all [one, shp, num, rg, tgt]
    try (first | rfl | omega)

set_option maxRecDepth 100000 in
set_option maxHeartbeats 1000000 in
theorem rone_6 (a b c n : Int) (w : World) (h1 : byt a = true) (h2 : byt b = true) (h3 : byt c = true) :
    Calls Tryz.prog 81 #[.agg #[.int .i64 6, .int .i64 a, .int .i64 b, .int .i64 c], .int .i64 n] w fun e w' => e = .returned (.bool (one 6 a b c n)) ∧ Below w.heap.size w w' := by
  have h0 : byt 6 = true := rfl
  have HW := Lib.hid (tgt_of b c h2 h3)
  have H1 := Lib.hid (byt_iff h1)
  have H2 := Lib.hid (byt_iff h2)
  have H3 := Lib.hid (byt_iff h3)
  obtain ⟨r, hr⟩ : ∃ r, one 6 a b c n = r := ⟨_, rfl⟩
  rw [hr]
  have HR := Lib.hid hr
  clear hr
  go_enter Tryz.func81, Tryz.ntmps81
  go_wp2_with (first | (go_at_call 106; refine (byt_any _ _).mono ?_; rintro e w' ⟨rfl, rfl⟩) | (go_at_call 107; refine (rg_any _ _).mono ?_; rintro e w' ⟨rfl, rfl⟩))
  all_goals
    go_ret
    refine ⟨ret_bool ?_, (Below.refl _ _).alloc (Nat.le_refl _) _⟩
    have H1 := H1.out
    have H2 := H2.out
    have H3 := H3.out
    have HW := HW.out
    rw [← HR.out]
    clear HR
    unfold tgt at HW
    simp_all [one, shp, num, rg, tgt]
    try (first | rfl | omega)

set_option maxRecDepth 100000 in
set_option maxHeartbeats 1000000 in
theorem rone_7 (a b c n : Int) (w : World) (h1 : byt a = true) (h2 : byt b = true) (h3 : byt c = true) :
    Calls Tryz.prog 81 #[.agg #[.int .i64 7, .int .i64 a, .int .i64 b, .int .i64 c], .int .i64 n] w fun e w' => e = .returned (.bool (one 7 a b c n)) ∧ Below w.heap.size w w' := by
  have h0 : byt 7 = true := rfl
  have HW := Lib.hid (tgt_of b c h2 h3)
  have H1 := Lib.hid (byt_iff h1)
  have H2 := Lib.hid (byt_iff h2)
  have H3 := Lib.hid (byt_iff h3)
  obtain ⟨r, hr⟩ : ∃ r, one 7 a b c n = r := ⟨_, rfl⟩
  rw [hr]
  have HR := Lib.hid hr
  clear hr
  go_enter Tryz.func81, Tryz.ntmps81
  go_wp2_with (first | (go_at_call 106; refine (byt_any _ _).mono ?_; rintro e w' ⟨rfl, rfl⟩) | (go_at_call 107; refine (rg_any _ _).mono ?_; rintro e w' ⟨rfl, rfl⟩))
  all_goals
    go_ret
    refine ⟨ret_bool ?_, (Below.refl _ _).alloc (Nat.le_refl _) _⟩
    have H1 := H1.out
    have H2 := H2.out
    have H3 := H3.out
    have HW := HW.out
    rw [← HR.out]
    clear HR
    unfold tgt at HW
    simp_all [one, shp, num, rg, tgt]
    try (first | rfl | omega)

set_option maxRecDepth 100000 in
set_option maxHeartbeats 1000000 in
theorem rone_8 (a b c n : Int) (w : World) (h1 : byt a = true) (h2 : byt b = true) (h3 : byt c = true) :
    Calls Tryz.prog 81 #[.agg #[.int .i64 8, .int .i64 a, .int .i64 b, .int .i64 c], .int .i64 n] w fun e w' => e = .returned (.bool (one 8 a b c n)) ∧ Below w.heap.size w w' := by
  have h0 : byt 8 = true := rfl
  have HW := Lib.hid (tgt_of b c h2 h3)
  have H1 := Lib.hid (byt_iff h1)
  have H2 := Lib.hid (byt_iff h2)
  have H3 := Lib.hid (byt_iff h3)
  obtain ⟨r, hr⟩ : ∃ r, one 8 a b c n = r := ⟨_, rfl⟩
  rw [hr]
  have HR := Lib.hid hr
  clear hr
  go_enter Tryz.func81, Tryz.ntmps81
  go_wp2_with (first | (go_at_call 106; refine (byt_any _ _).mono ?_; rintro e w' ⟨rfl, rfl⟩) | (go_at_call 107; refine (rg_any _ _).mono ?_; rintro e w' ⟨rfl, rfl⟩))
  all_goals
    go_ret
    refine ⟨ret_bool ?_, (Below.refl _ _).alloc (Nat.le_refl _) _⟩
    have H1 := H1.out
    have H2 := H2.out
    have H3 := H3.out
    have HW := HW.out
    rw [← HR.out]
    clear HR
    unfold tgt at HW
    simp_all [one, shp, num, rg, tgt]
    try (first | rfl | omega)

set_option maxRecDepth 100000 in
set_option maxHeartbeats 1000000 in
theorem rone_9 (a b c n : Int) (w : World) (h1 : byt a = true) (h2 : byt b = true) (h3 : byt c = true) :
    Calls Tryz.prog 81 #[.agg #[.int .i64 9, .int .i64 a, .int .i64 b, .int .i64 c], .int .i64 n] w fun e w' => e = .returned (.bool (one 9 a b c n)) ∧ Below w.heap.size w w' := by
  have h0 : byt 9 = true := rfl
  have HW := Lib.hid (tgt_of b c h2 h3)
  have H1 := Lib.hid (byt_iff h1)
  have H2 := Lib.hid (byt_iff h2)
  have H3 := Lib.hid (byt_iff h3)
  obtain ⟨r, hr⟩ : ∃ r, one 9 a b c n = r := ⟨_, rfl⟩
  rw [hr]
  have HR := Lib.hid hr
  clear hr
  go_enter Tryz.func81, Tryz.ntmps81
  go_wp2_with (first | (go_at_call 106; refine (byt_any _ _).mono ?_; rintro e w' ⟨rfl, rfl⟩) | (go_at_call 107; refine (rg_any _ _).mono ?_; rintro e w' ⟨rfl, rfl⟩))
  all_goals
    go_ret
    refine ⟨ret_bool ?_, (Below.refl _ _).alloc (Nat.le_refl _) _⟩
    have H1 := H1.out
    have H2 := H2.out
    have H3 := H3.out
    have HW := HW.out
    rw [← HR.out]
    clear HR
    unfold tgt at HW
    simp_all [one, shp, num, rg, tgt]
    try (first | rfl | omega)

set_option maxRecDepth 100000 in
set_option maxHeartbeats 1000000 in
theorem rone_10 (a b c n : Int) (w : World) (h1 : byt a = true) (h2 : byt b = true) (h3 : byt c = true) :
    Calls Tryz.prog 81 #[.agg #[.int .i64 10, .int .i64 a, .int .i64 b, .int .i64 c], .int .i64 n] w fun e w' => e = .returned (.bool (one 10 a b c n)) ∧ Below w.heap.size w w' := by
  have h0 : byt 10 = true := rfl
  have HW := Lib.hid (tgt_of b c h2 h3)
  have H1 := Lib.hid (byt_iff h1)
  have H2 := Lib.hid (byt_iff h2)
  have H3 := Lib.hid (byt_iff h3)
  obtain ⟨r, hr⟩ : ∃ r, one 10 a b c n = r := ⟨_, rfl⟩
  rw [hr]
  have HR := Lib.hid hr
  clear hr
  go_enter Tryz.func81, Tryz.ntmps81
  go_wp2_with (first | (go_at_call 106; refine (byt_any _ _).mono ?_; rintro e w' ⟨rfl, rfl⟩) | (go_at_call 107; refine (rg_any _ _).mono ?_; rintro e w' ⟨rfl, rfl⟩))
  all_goals
    go_ret
    refine ⟨ret_bool ?_, (Below.refl _ _).alloc (Nat.le_refl _) _⟩
    have H1 := H1.out
    have H2 := H2.out
    have H3 := H3.out
    have HW := HW.out
    rw [← HR.out]
    clear HR
    unfold tgt at HW
    simp_all [one, shp, num, rg, tgt]
    try (first | rfl | omega)

set_option maxRecDepth 100000 in
set_option maxHeartbeats 1000000 in
theorem rone_11 (a b c n : Int) (w : World) (h1 : byt a = true) (h2 : byt b = true) (h3 : byt c = true) :
    Calls Tryz.prog 81 #[.agg #[.int .i64 11, .int .i64 a, .int .i64 b, .int .i64 c], .int .i64 n] w fun e w' => e = .returned (.bool (one 11 a b c n)) ∧ Below w.heap.size w w' := by
  have h0 : byt 11 = true := rfl
  have HW := Lib.hid (tgt_of b c h2 h3)
  have H1 := Lib.hid (byt_iff h1)
  have H2 := Lib.hid (byt_iff h2)
  have H3 := Lib.hid (byt_iff h3)
  obtain ⟨r, hr⟩ : ∃ r, one 11 a b c n = r := ⟨_, rfl⟩
  rw [hr]
  have HR := Lib.hid hr
  clear hr
  go_enter Tryz.func81, Tryz.ntmps81
  go_wp2_with (first | (go_at_call 106; refine (byt_any _ _).mono ?_; rintro e w' ⟨rfl, rfl⟩) | (go_at_call 107; refine (rg_any _ _).mono ?_; rintro e w' ⟨rfl, rfl⟩))
  all_goals
    go_ret
    refine ⟨ret_bool ?_, (Below.refl _ _).alloc (Nat.le_refl _) _⟩
    have H1 := H1.out
    have H2 := H2.out
    have H3 := H3.out
    have HW := HW.out
    rw [← HR.out]
    clear HR
    unfold tgt at HW
    simp_all [one, shp, num, rg, tgt]
    try (first | rfl | omega)

set_option maxRecDepth 100000 in
set_option maxHeartbeats 1000000 in
theorem rone_12 (a b c n : Int) (w : World) (h1 : byt a = true) (h2 : byt b = true) (h3 : byt c = true) :
    Calls Tryz.prog 81 #[.agg #[.int .i64 12, .int .i64 a, .int .i64 b, .int .i64 c], .int .i64 n] w fun e w' => e = .returned (.bool (one 12 a b c n)) ∧ Below w.heap.size w w' := by
  have h0 : byt 12 = true := rfl
  have HW := Lib.hid (tgt_of b c h2 h3)
  have H1 := Lib.hid (byt_iff h1)
  have H2 := Lib.hid (byt_iff h2)
  have H3 := Lib.hid (byt_iff h3)
  obtain ⟨r, hr⟩ : ∃ r, one 12 a b c n = r := ⟨_, rfl⟩
  rw [hr]
  have HR := Lib.hid hr
  clear hr
  go_enter Tryz.func81, Tryz.ntmps81
  go_wp2_with (first | (go_at_call 106; refine (byt_any _ _).mono ?_; rintro e w' ⟨rfl, rfl⟩) | (go_at_call 107; refine (rg_any _ _).mono ?_; rintro e w' ⟨rfl, rfl⟩))
  all_goals
    go_ret
    refine ⟨ret_bool ?_, (Below.refl _ _).alloc (Nat.le_refl _) _⟩
    have H1 := H1.out
    have H2 := H2.out
    have H3 := H3.out
    have HW := HW.out
    rw [← HR.out]
    clear HR
    unfold tgt at HW
    simp_all [one, shp, num, rg, tgt]
    try (first | rfl | omega)

set_option maxRecDepth 100000 in
set_option maxHeartbeats 1000000 in
theorem rone_13 (a b c n : Int) (w : World) (h1 : byt a = true) (h2 : byt b = true) (h3 : byt c = true) :
    Calls Tryz.prog 81 #[.agg #[.int .i64 13, .int .i64 a, .int .i64 b, .int .i64 c], .int .i64 n] w fun e w' => e = .returned (.bool (one 13 a b c n)) ∧ Below w.heap.size w w' := by
  have h0 : byt 13 = true := rfl
  have HW := Lib.hid (tgt_of b c h2 h3)
  have H1 := Lib.hid (byt_iff h1)
  have H2 := Lib.hid (byt_iff h2)
  have H3 := Lib.hid (byt_iff h3)
  obtain ⟨r, hr⟩ : ∃ r, one 13 a b c n = r := ⟨_, rfl⟩
  rw [hr]
  have HR := Lib.hid hr
  clear hr
  go_enter Tryz.func81, Tryz.ntmps81
  go_wp2_with (first | (go_at_call 106; refine (byt_any _ _).mono ?_; rintro e w' ⟨rfl, rfl⟩) | (go_at_call 107; refine (rg_any _ _).mono ?_; rintro e w' ⟨rfl, rfl⟩))
  all_goals
    go_ret
    refine ⟨ret_bool ?_, (Below.refl _ _).alloc (Nat.le_refl _) _⟩
    have H1 := H1.out
    have H2 := H2.out
    have H3 := H3.out
    have HW := HW.out
    rw [← HR.out]
    clear HR
    unfold tgt at HW
    simp_all [one, shp, num, rg, tgt]
    try (first | rfl | omega)

set_option maxRecDepth 100000 in
set_option maxHeartbeats 1000000 in
theorem rone_14 (a b c n : Int) (w : World) (h1 : byt a = true) (h2 : byt b = true) (h3 : byt c = true) :
    Calls Tryz.prog 81 #[.agg #[.int .i64 14, .int .i64 a, .int .i64 b, .int .i64 c], .int .i64 n] w fun e w' => e = .returned (.bool (one 14 a b c n)) ∧ Below w.heap.size w w' := by
  have h0 : byt 14 = true := rfl
  have HW := Lib.hid (tgt_of b c h2 h3)
  have H1 := Lib.hid (byt_iff h1)
  have H2 := Lib.hid (byt_iff h2)
  have H3 := Lib.hid (byt_iff h3)
  obtain ⟨r, hr⟩ : ∃ r, one 14 a b c n = r := ⟨_, rfl⟩
  rw [hr]
  have HR := Lib.hid hr
  clear hr
  go_enter Tryz.func81, Tryz.ntmps81
  go_wp2_with (first | (go_at_call 106; refine (byt_any _ _).mono ?_; rintro e w' ⟨rfl, rfl⟩) | (go_at_call 107; refine (rg_any _ _).mono ?_; rintro e w' ⟨rfl, rfl⟩))
  all_goals
    go_ret
    refine ⟨ret_bool ?_, (Below.refl _ _).alloc (Nat.le_refl _) _⟩
    have H1 := H1.out
    have H2 := H2.out
    have H3 := H3.out
    have HW := HW.out
    rw [← HR.out]
    clear HR
    unfold tgt at HW
    simp_all [one, shp, num, rg, tgt]
    try (first | rfl | omega)

set_option maxRecDepth 100000 in
set_option maxHeartbeats 1000000 in
theorem rone_15 (a b c n : Int) (w : World) (h1 : byt a = true) (h2 : byt b = true) (h3 : byt c = true) :
    Calls Tryz.prog 81 #[.agg #[.int .i64 15, .int .i64 a, .int .i64 b, .int .i64 c], .int .i64 n] w fun e w' => e = .returned (.bool (one 15 a b c n)) ∧ Below w.heap.size w w' := by
  have h0 : byt 15 = true := rfl
  have HW := Lib.hid (tgt_of b c h2 h3)
  have H1 := Lib.hid (byt_iff h1)
  have H2 := Lib.hid (byt_iff h2)
  have H3 := Lib.hid (byt_iff h3)
  obtain ⟨r, hr⟩ : ∃ r, one 15 a b c n = r := ⟨_, rfl⟩
  rw [hr]
  have HR := Lib.hid hr
  clear hr
  go_enter Tryz.func81, Tryz.ntmps81
  go_wp2_with (first | (go_at_call 106; refine (byt_any _ _).mono ?_; rintro e w' ⟨rfl, rfl⟩) | (go_at_call 107; refine (rg_any _ _).mono ?_; rintro e w' ⟨rfl, rfl⟩))
  all_goals
    go_ret
    refine ⟨ret_bool ?_, (Below.refl _ _).alloc (Nat.le_refl _) _⟩
    have H1 := H1.out
    have H2 := H2.out
    have H3 := H3.out
    have HW := HW.out
    rw [← HR.out]
    clear HR
    unfold tgt at HW
    simp_all [one, shp, num, rg, tgt]
    try (first | rfl | omega)

set_option maxRecDepth 100000 in
set_option maxHeartbeats 1000000 in
theorem rone_16 (a b c n : Int) (w : World) (h1 : byt a = true) (h2 : byt b = true) (h3 : byt c = true) :
    Calls Tryz.prog 81 #[.agg #[.int .i64 16, .int .i64 a, .int .i64 b, .int .i64 c], .int .i64 n] w fun e w' => e = .returned (.bool (one 16 a b c n)) ∧ Below w.heap.size w w' := by
  have h0 : byt 16 = true := rfl
  have HW := Lib.hid (tgt_of b c h2 h3)
  have H1 := Lib.hid (byt_iff h1)
  have H2 := Lib.hid (byt_iff h2)
  have H3 := Lib.hid (byt_iff h3)
  obtain ⟨r, hr⟩ : ∃ r, one 16 a b c n = r := ⟨_, rfl⟩
  rw [hr]
  have HR := Lib.hid hr
  clear hr
  go_enter Tryz.func81, Tryz.ntmps81
  go_wp2_with (first | (go_at_call 106; refine (byt_any _ _).mono ?_; rintro e w' ⟨rfl, rfl⟩) | (go_at_call 107; refine (rg_any _ _).mono ?_; rintro e w' ⟨rfl, rfl⟩))
  all_goals
    go_ret
    refine ⟨ret_bool ?_, (Below.refl _ _).alloc (Nat.le_refl _) _⟩
    have H1 := H1.out
    have H2 := H2.out
    have H3 := H3.out
    have HW := HW.out
    rw [← HR.out]
    clear HR
    unfold tgt at HW
    simp_all [one, shp, num, rg, tgt]
    try (first | rfl | omega)

set_option maxRecDepth 100000 in
set_option maxHeartbeats 1000000 in
theorem rone_17 (a b c n : Int) (w : World) (h1 : byt a = true) (h2 : byt b = true) (h3 : byt c = true) :
    Calls Tryz.prog 81 #[.agg #[.int .i64 17, .int .i64 a, .int .i64 b, .int .i64 c], .int .i64 n] w fun e w' => e = .returned (.bool (one 17 a b c n)) ∧ Below w.heap.size w w' := by
  have h0 : byt 17 = true := rfl
  have HW := Lib.hid (tgt_of b c h2 h3)
  have H1 := Lib.hid (byt_iff h1)
  have H2 := Lib.hid (byt_iff h2)
  have H3 := Lib.hid (byt_iff h3)
  obtain ⟨r, hr⟩ : ∃ r, one 17 a b c n = r := ⟨_, rfl⟩
  rw [hr]
  have HR := Lib.hid hr
  clear hr
  go_enter Tryz.func81, Tryz.ntmps81
  go_wp2_with (first | (go_at_call 106; refine (byt_any _ _).mono ?_; rintro e w' ⟨rfl, rfl⟩) | (go_at_call 107; refine (rg_any _ _).mono ?_; rintro e w' ⟨rfl, rfl⟩))
  all_goals
    go_ret
    refine ⟨ret_bool ?_, (Below.refl _ _).alloc (Nat.le_refl _) _⟩
    have H1 := H1.out
    have H2 := H2.out
    have H3 := H3.out
    have HW := HW.out
    rw [← HR.out]
    clear HR
    unfold tgt at HW
    simp_all [one, shp, num, rg, tgt]
    try (first | rfl | omega)

set_option maxRecDepth 100000 in
set_option maxHeartbeats 1000000 in
theorem rone_18 (a b c n : Int) (w : World) (h1 : byt a = true) (h2 : byt b = true) (h3 : byt c = true) :
    Calls Tryz.prog 81 #[.agg #[.int .i64 18, .int .i64 a, .int .i64 b, .int .i64 c], .int .i64 n] w fun e w' => e = .returned (.bool (one 18 a b c n)) ∧ Below w.heap.size w w' := by
  have h0 : byt 18 = true := rfl
  have HW := Lib.hid (tgt_of b c h2 h3)
  have H1 := Lib.hid (byt_iff h1)
  have H2 := Lib.hid (byt_iff h2)
  have H3 := Lib.hid (byt_iff h3)
  obtain ⟨r, hr⟩ : ∃ r, one 18 a b c n = r := ⟨_, rfl⟩
  rw [hr]
  have HR := Lib.hid hr
  clear hr
  go_enter Tryz.func81, Tryz.ntmps81
  go_wp2_with (first | (go_at_call 106; refine (byt_any _ _).mono ?_; rintro e w' ⟨rfl, rfl⟩) | (go_at_call 107; refine (rg_any _ _).mono ?_; rintro e w' ⟨rfl, rfl⟩))
  all_goals
    go_ret
    refine ⟨ret_bool ?_, (Below.refl _ _).alloc (Nat.le_refl _) _⟩
    have H1 := H1.out
    have H2 := H2.out
    have H3 := H3.out
    have HW := HW.out
    rw [← HR.out]
    clear HR
    unfold tgt at HW
    simp_all [one, shp, num, rg, tgt]
    try (first | rfl | omega)

set_option maxRecDepth 100000 in
set_option maxHeartbeats 1000000 in
theorem rone_19 (a b c n : Int) (w : World) (h1 : byt a = true) (h2 : byt b = true) (h3 : byt c = true) :
    Calls Tryz.prog 81 #[.agg #[.int .i64 19, .int .i64 a, .int .i64 b, .int .i64 c], .int .i64 n] w fun e w' => e = .returned (.bool (one 19 a b c n)) ∧ Below w.heap.size w w' := by
  have h0 : byt 19 = true := rfl
  have HW := Lib.hid (tgt_of b c h2 h3)
  have H1 := Lib.hid (byt_iff h1)
  have H2 := Lib.hid (byt_iff h2)
  have H3 := Lib.hid (byt_iff h3)
  obtain ⟨r, hr⟩ : ∃ r, one 19 a b c n = r := ⟨_, rfl⟩
  rw [hr]
  have HR := Lib.hid hr
  clear hr
  go_enter Tryz.func81, Tryz.ntmps81
  go_wp2_with (first | (go_at_call 106; refine (byt_any _ _).mono ?_; rintro e w' ⟨rfl, rfl⟩) | (go_at_call 107; refine (rg_any _ _).mono ?_; rintro e w' ⟨rfl, rfl⟩))
  all_goals
    go_ret
    refine ⟨ret_bool ?_, (Below.refl _ _).alloc (Nat.le_refl _) _⟩
    have H1 := H1.out
    have H2 := H2.out
    have H3 := H3.out
    have HW := HW.out
    rw [← HR.out]
    clear HR
    unfold tgt at HW
    simp_all [one, shp, num, rg, tgt]
    try (first | rfl | omega)

set_option maxRecDepth 100000 in
set_option maxHeartbeats 1000000 in
theorem rone_20 (a b c n : Int) (w : World) (h1 : byt a = true) (h2 : byt b = true) (h3 : byt c = true) :
    Calls Tryz.prog 81 #[.agg #[.int .i64 20, .int .i64 a, .int .i64 b, .int .i64 c], .int .i64 n] w fun e w' => e = .returned (.bool (one 20 a b c n)) ∧ Below w.heap.size w w' := by
  have h0 : byt 20 = true := rfl
  have HW := Lib.hid (tgt_of b c h2 h3)
  have H1 := Lib.hid (byt_iff h1)
  have H2 := Lib.hid (byt_iff h2)
  have H3 := Lib.hid (byt_iff h3)
  obtain ⟨r, hr⟩ : ∃ r, one 20 a b c n = r := ⟨_, rfl⟩
  rw [hr]
  have HR := Lib.hid hr
  clear hr
  go_enter Tryz.func81, Tryz.ntmps81
  go_wp2_with (first | (go_at_call 106; refine (byt_any _ _).mono ?_; rintro e w' ⟨rfl, rfl⟩) | (go_at_call 107; refine (rg_any _ _).mono ?_; rintro e w' ⟨rfl, rfl⟩))
  all_goals
    go_ret
    refine ⟨ret_bool ?_, (Below.refl _ _).alloc (Nat.le_refl _) _⟩
    have H1 := H1.out
    have H2 := H2.out
    have H3 := H3.out
    have HW := HW.out
    rw [← HR.out]
    clear HR
    unfold tgt at HW
    simp_all [one, shp, num, rg, tgt]
    try (first | rfl | omega)

set_option maxRecDepth 100000 in
set_option maxHeartbeats 1000000 in
theorem rone_21 (a b c n : Int) (w : World) (h1 : byt a = true) (h2 : byt b = true) (h3 : byt c = true) :
    Calls Tryz.prog 81 #[.agg #[.int .i64 21, .int .i64 a, .int .i64 b, .int .i64 c], .int .i64 n] w fun e w' => e = .returned (.bool (one 21 a b c n)) ∧ Below w.heap.size w w' := by
  have h0 : byt 21 = true := rfl
  have HW := Lib.hid (tgt_of b c h2 h3)
  have H1 := Lib.hid (byt_iff h1)
  have H2 := Lib.hid (byt_iff h2)
  have H3 := Lib.hid (byt_iff h3)
  obtain ⟨r, hr⟩ : ∃ r, one 21 a b c n = r := ⟨_, rfl⟩
  rw [hr]
  have HR := Lib.hid hr
  clear hr
  go_enter Tryz.func81, Tryz.ntmps81
  go_wp2_with (first | (go_at_call 106; refine (byt_any _ _).mono ?_; rintro e w' ⟨rfl, rfl⟩) | (go_at_call 107; refine (rg_any _ _).mono ?_; rintro e w' ⟨rfl, rfl⟩))
  all_goals
    go_ret
    refine ⟨ret_bool ?_, (Below.refl _ _).alloc (Nat.le_refl _) _⟩
    have H1 := H1.out
    have H2 := H2.out
    have H3 := H3.out
    have HW := HW.out
    rw [← HR.out]
    clear HR
    unfold tgt at HW
    simp_all [one, shp, num, rg, tgt]
    try (first | rfl | omega)

set_option maxRecDepth 100000 in
set_option maxHeartbeats 1000000 in
theorem rone_22 (a b c n : Int) (w : World) (h1 : byt a = true) (h2 : byt b = true) (h3 : byt c = true) :
    Calls Tryz.prog 81 #[.agg #[.int .i64 22, .int .i64 a, .int .i64 b, .int .i64 c], .int .i64 n] w fun e w' => e = .returned (.bool (one 22 a b c n)) ∧ Below w.heap.size w w' := by
  have h0 : byt 22 = true := rfl
  have HW := Lib.hid (tgt_of b c h2 h3)
  have H1 := Lib.hid (byt_iff h1)
  have H2 := Lib.hid (byt_iff h2)
  have H3 := Lib.hid (byt_iff h3)
  obtain ⟨r, hr⟩ : ∃ r, one 22 a b c n = r := ⟨_, rfl⟩
  rw [hr]
  have HR := Lib.hid hr
  clear hr
  go_enter Tryz.func81, Tryz.ntmps81
  go_wp2_with (first | (go_at_call 106; refine (byt_any _ _).mono ?_; rintro e w' ⟨rfl, rfl⟩) | (go_at_call 107; refine (rg_any _ _).mono ?_; rintro e w' ⟨rfl, rfl⟩))
  all_goals
    go_ret
    refine ⟨ret_bool ?_, (Below.refl _ _).alloc (Nat.le_refl _) _⟩
    have H1 := H1.out
    have H2 := H2.out
    have H3 := H3.out
    have HW := HW.out
    rw [← HR.out]
    clear HR
    unfold tgt at HW
    simp_all [one, shp, num, rg, tgt]
    try (first | rfl | omega)

set_option maxRecDepth 100000 in
set_option maxHeartbeats 1000000 in
theorem rone_bad (op a b c n : Int) (w : World) (h : byt op = false ∨ byt op = true ∧ byt a = false ∨ byt op = true ∧ byt a = true ∧ byt b = false ∨ byt op = true ∧ byt a = true ∧ byt b = true ∧ byt c = false) :
    Calls Tryz.prog 81 #[.agg #[.int .i64 op, .int .i64 a, .int .i64 b, .int .i64 c], .int .i64 n] w fun e w' => e = .returned (.bool false) ∧ Below w.heap.size w w' := by
  rcases h with h0 | ⟨h0, h1⟩ | ⟨h0, h1, h2⟩ | ⟨h0, h1, h2, h3⟩
  all_goals
    go_enter Tryz.func81, Tryz.ntmps81
    go_wp2_with (first | (go_at_call 106; refine (byt_any _ _).mono ?_; rintro e w' ⟨rfl, rfl⟩) | (go_at_call 107; refine (rg_any _ _).mono ?_; rintro e w' ⟨rfl, rfl⟩))
    go_ret
    exact ⟨rfl, (Below.refl _ _).alloc (Nat.le_refl _) _⟩

set_option maxRecDepth 100000 in
set_option maxHeartbeats 1000000 in
theorem rone_far (op a b c n : Int) (w : World) (h0 : byt op = true) (h1 : byt a = true) (h2 : byt b = true) (h3 : byt c = true) (h : 23 ≤ op) :
    Calls Tryz.prog 81 #[.agg #[.int .i64 op, .int .i64 a, .int .i64 b, .int .i64 c], .int .i64 n] w fun e w' => e = .returned (.bool false) ∧ Below w.heap.size w w' := by
  go_enter Tryz.func81, Tryz.ntmps81
  go_wp2_with (first | (go_at_call 106; refine (byt_any _ _).mono ?_; rintro e w' ⟨rfl, rfl⟩) | (go_at_call 107; refine (rg_any _ _).mono ?_; rintro e w' ⟨rfl, rfl⟩))
  go_ret
  exact ⟨rfl, (Below.refl _ _).alloc (Nat.le_refl _) _⟩

theorem rone_any (op a b c n : Int) (w : World) :
    Calls Tryz.prog 81 #[.agg #[.int .i64 op, .int .i64 a, .int .i64 b, .int .i64 c], .int .i64 n] w fun e w' => e = .returned (.bool (one op a b c n)) ∧ Below w.heap.size w w' := by
  cases h0 : byt op
  · rw [one_op (by have := byt_no h0; omega)]
    exact rone_bad op a b c n w (.inl h0)
  cases h1 : byt a
  · rw [one_a h1]
    exact rone_bad op a b c n w (.inr (.inl ⟨h0, h1⟩))
  cases h2 : byt b
  · rw [one_b h2]
    exact rone_bad op a b c n w (.inr (.inr (.inl ⟨h0, h1, h2⟩)))
  cases h3 : byt c
  · rw [one_c h3]
    exact rone_bad op a b c n w (.inr (.inr (.inr ⟨h0, h1, h2, h3⟩)))
  have hh := byt_iff h0
  by_cases h : 23 ≤ op
  · rw [one_op (by omega)]
    exact rone_far op a b c n w h0 h1 h2 h3 h
  have hc : op = 0 ∨ op = 1 ∨ op = 2 ∨ op = 3 ∨ op = 4 ∨ op = 5 ∨ op = 6 ∨ op = 7 ∨ op = 8 ∨ op = 9 ∨ op = 10 ∨ op = 11 ∨ op = 12 ∨ op = 13 ∨ op = 14 ∨ op = 15 ∨ op = 16 ∨ op = 17 ∨ op = 18 ∨ op = 19 ∨ op = 20 ∨ op = 21 ∨ op = 22 := by omega
  rcases hc with rfl | rfl | rfl | rfl | rfl | rfl | rfl | rfl | rfl | rfl | rfl | rfl | rfl | rfl | rfl | rfl | rfl | rfl | rfl | rfl | rfl | rfl | rfl
  · exact rone_0 a b c n w h1 h2 h3
  · exact rone_1 a b c n w h1 h2 h3
  · exact rone_2 a b c n w h1 h2 h3
  · exact rone_3 a b c n w h1 h2 h3
  · exact rone_4 a b c n w h1 h2 h3
  · exact rone_5 a b c n w h1 h2 h3
  · exact rone_6 a b c n w h1 h2 h3
  · exact rone_7 a b c n w h1 h2 h3
  · exact rone_8 a b c n w h1 h2 h3
  · exact rone_9 a b c n w h1 h2 h3
  · exact rone_10 a b c n w h1 h2 h3
  · exact rone_11 a b c n w h1 h2 h3
  · exact rone_12 a b c n w h1 h2 h3
  · exact rone_13 a b c n w h1 h2 h3
  · exact rone_14 a b c n w h1 h2 h3
  · exact rone_15 a b c n w h1 h2 h3
  · exact rone_16 a b c n w h1 h2 h3
  · exact rone_17 a b c n w h1 h2 h3
  · exact rone_18 a b c n w h1 h2 h3
  · exact rone_19 a b c n w h1 h2 h3
  · exact rone_20 a b c n w h1 h2 h3
  · exact rone_21 a b c n w h1 h2 h3
  · exact rone_22 a b c n w h1 h2 h3

end Go.Proofs.YteminkohgagedaaGreat.Ver
