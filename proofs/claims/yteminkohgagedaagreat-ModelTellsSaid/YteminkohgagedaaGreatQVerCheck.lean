/- Of every program verify.Check answers as the plain function 'chk'. -/
import Derived.Test.YteminkohgagedaaGreatQVerPlain
import Derived.Test.YteminkohgagedaaGreatProg
namespace Go.Proofs.YteminkohgagedaaGreat.Ver
open Go.RowKit Go.Proofs.YteminkohgagedaaGreat.Base
set_option linter.unusedVariables false
set_option linter.unusedSimpArgs false

theorem insInfo : (Tryz.prog.info? 58).map (fun i => (i.zero, i.size, i.bytes)) = some (some (.agg #[.int .i64 0, .int .i64 0, .int .i64 0, .int .i64 0]), 4, 32) := by kernel_rfl

set_option maxHeartbeats 1000000 in
theorem target_any (op a b c : Int) (w : World) : Calls Tryz.prog 100 #[.agg #[.int .i64 op, .int .i64 a, .int .i64 b, .int .i64 c]] w fun e w' =>
    e = .returned (.tuple #[.int .i64 (if op = 5 ∨ op = 6 then tgt b c else 0), .bool (decide (op = 5 ∨ op = 6))]) ∧ Below w.heap.size w w' := by
  by_cases h : op = 5 ∨ op = 6
  · rw [if_pos h, decide_eq_true h]
    rcases h with rfl | rfl
    all_goals
      go_enter Tryz.func100, Tryz.ntmps100
      go_wp2
      go_ret2
      exact ⟨rfl, (Below.refl _ _).alloc (Nat.le_refl _) _⟩
  · rw [if_neg h, decide_eq_false h]
    have b5 : (op == 5) = false := beq_eq_false_iff_ne.mpr (by omega)
    have b6 : (op == 6) = false := beq_eq_false_iff_ne.mpr (by omega)
    clear h
    go_enter Tryz.func100, Tryz.ntmps100
    go_wp2
    go_ret2
    exact ⟨rfl, (Below.refl _ _).alloc (Nat.le_refl _) _⟩

theorem target_no (op a b c : Int) (h : ¬ (op = 5 ∨ op = 6)) (w : World) : Calls Tryz.prog 100 #[.agg #[.int .i64 op, .int .i64 a, .int .i64 b, .int .i64 c]] w fun e w' =>
    e = .returned (.tuple #[.int .i64 0, .bool false]) ∧ Below w.heap.size w w' := by
  refine (target_any op a b c w).mono ?_
  rintro e w' ⟨rfl, hb⟩
  rw [if_neg h, decide_eq_false h]
  exact ⟨rfl, hb⟩
theorem target_yes (op a b c : Int) (h : op = 5 ∨ op = 6) (w : World) : Calls Tryz.prog 100 #[.agg #[.int .i64 op, .int .i64 a, .int .i64 b, .int .i64 c]] w fun e w' =>
    e = .returned (.tuple #[.int .i64 (tgt b c), .bool true]) ∧ Below w.heap.size w w' := by
  refine (target_any op a b c w).mono ?_
  rintro e w' ⟨rfl, hb⟩
  rw [if_pos h, decide_eq_true h]
  exact ⟨rfl, hb⟩

end Go.Proofs.YteminkohgagedaaGreat.Ver
namespace Go.Proofs.YteminkohgagedaaGreat.Ver
open Go.RowKit Go.Proofs.YteminkohgagedaaGreat.Base
set_option linter.unusedVariables false
set_option linter.unusedSimpArgs false

theorem number_any (v k : Int) (w : World) : Calls Tryz.prog 99 #[.int .i64 v, .int .i64 k] w fun e w' => e = .returned (.bool (num v k)) ∧ w = w' := by
  obtain ⟨x, hx⟩ : ∃ x, num v k = x := ⟨_, rfl⟩
  rw [hx]
  by_cases h1 : k = 1
  · subst h1
    have HX := Lib.hid hx
    clear hx
    go_enter Tryz.func99, Tryz.ntmps99
    go_wp2
    go_ret
    exact ⟨ret_bool (by rw [← HX.out]; rfl), rfl⟩
  by_cases h2 : k = 2
  · subst h2
    rcases (by omega : (0 ≤ v ∧ v < 4) ∨ v < 0 ∨ (0 ≤ v ∧ 4 ≤ v)) with ⟨ha, hb⟩ | ha | ⟨ha, hb⟩
    all_goals
      have HX := Lib.hid hx
      clear hx
      go_enter Tryz.func99, Tryz.ntmps99
      go_wp2
      go_ret
      refine ⟨ret_bool ?_, rfl⟩
      rw [← HX.out]
      simp only [num, Int.reduceEq, if_false, if_true]
      apply Eq.symm
      first | (apply decide_eq_true; omega) | (apply decide_eq_false; omega) | (apply decide_eq_decide.mpr; omega)
  by_cases h3 : k = 3
  · subst h3
    rcases (by omega : (0 ≤ v ∧ v < 8) ∨ v < 0 ∨ (0 ≤ v ∧ 8 ≤ v)) with ⟨ha, hb⟩ | ha | ⟨ha, hb⟩
    all_goals
      have HX := Lib.hid hx
      clear hx
      go_enter Tryz.func99, Tryz.ntmps99
      go_wp2
      go_ret
      refine ⟨ret_bool ?_, rfl⟩
      rw [← HX.out]
      simp only [num, Int.reduceEq, if_false, if_true]
      apply Eq.symm
      first | (apply decide_eq_true; omega) | (apply decide_eq_false; omega) | (apply decide_eq_decide.mpr; omega)
  rcases (by omega : (0 ≤ v ∧ v ≤ 255) ∨ v < 0 ∨ (0 ≤ v ∧ 255 < v)) with ⟨ha, hb⟩ | ha | ⟨ha, hb⟩
  all_goals
    have HX := Lib.hid hx
    clear hx
    go_enter Tryz.func99, Tryz.ntmps99
    go_wp2
    go_ret
    refine ⟨ret_bool ?_, rfl⟩
    rw [← HX.out]
    simp only [num, h1, h2, h3, if_false]
    apply Eq.symm
    first | (apply decide_eq_true; omega) | (apply decide_eq_false; omega) | (apply decide_eq_decide.mpr; omega)

def shpV (op : Int) : Value := .tuple #[.int .i64 (shp op).1, .int .i64 (shp op).2.1, .int .i64 (shp op).2.2]
set_option maxHeartbeats 1000000 in
theorem shape_any (op : Int) (w : World) : Calls Tryz.prog 98 #[.int .i64 op] w fun e w' => e = .returned (shpV op) ∧ w = w' := by
  obtain ⟨x, hx⟩ : ∃ x, shpV op = x := ⟨_, rfl⟩
  rw [hx]
  by_cases hc : op = 0 ∨ op = 1 ∨ op = 2 ∨ op = 3 ∨ op = 4 ∨ op = 5 ∨ op = 6 ∨ op = 7 ∨ op = 8 ∨ op = 9 ∨ op = 10 ∨ op = 11 ∨ op = 12 ∨ op = 13 ∨ op = 14 ∨ op = 15 ∨ op = 16 ∨ op = 18 ∨ op = 19
  · rcases hc with rfl | rfl | rfl | rfl | rfl | rfl | rfl | rfl | rfl | rfl | rfl | rfl | rfl | rfl | rfl | rfl | rfl | rfl | rfl
    all_goals
      have HX := Lib.hid hx
      clear hx
      go_enter Tryz.func98, Tryz.ntmps98
      go_wp2
      go_ret3
      exact ⟨by rw [← HX.out]; rfl, rfl⟩
  · obtain rfl : x = .tuple #[.int .i64 2, .int .i64 2, .int .i64 1] := by
      simp only [not_or] at hc
      obtain ⟨a0, a1, a2, a3, a4, a5, a6, a7, a8, a9, a10, a11, a12, a13, a14, a15, a16, a18, a19⟩ := hc
      rw [← hx]; simp only [shpV, shp, a0, a1, a2, a3, a4, a5, a6, a7, a8, a9, a10, a11, a12, a13, a14, a15, a16, a18, a19, false_or, if_false]
    clear hx
    have b0 : (op == 0) = false := beq_eq_false_iff_ne.mpr (by omega)
    have b1 : (op == 1) = false := beq_eq_false_iff_ne.mpr (by omega)
    have b2 : (op == 2) = false := beq_eq_false_iff_ne.mpr (by omega)
    have b3 : (op == 3) = false := beq_eq_false_iff_ne.mpr (by omega)
    have b4 : (op == 4) = false := beq_eq_false_iff_ne.mpr (by omega)
    have b5 : (op == 5) = false := beq_eq_false_iff_ne.mpr (by omega)
    have b6 : (op == 6) = false := beq_eq_false_iff_ne.mpr (by omega)
    have b7 : (op == 7) = false := beq_eq_false_iff_ne.mpr (by omega)
    have b8 : (op == 8) = false := beq_eq_false_iff_ne.mpr (by omega)
    have b9 : (op == 9) = false := beq_eq_false_iff_ne.mpr (by omega)
    have b10 : (op == 10) = false := beq_eq_false_iff_ne.mpr (by omega)
    have b11 : (op == 11) = false := beq_eq_false_iff_ne.mpr (by omega)
    have b12 : (op == 12) = false := beq_eq_false_iff_ne.mpr (by omega)
    have b13 : (op == 13) = false := beq_eq_false_iff_ne.mpr (by omega)
    have b14 : (op == 14) = false := beq_eq_false_iff_ne.mpr (by omega)
    have b15 : (op == 15) = false := beq_eq_false_iff_ne.mpr (by omega)
    have b16 : (op == 16) = false := beq_eq_false_iff_ne.mpr (by omega)
    have b18 : (op == 18) = false := beq_eq_false_iff_ne.mpr (by omega)
    have b19 : (op == 19) = false := beq_eq_false_iff_ne.mpr (by omega)
    clear hc
    go_enter Tryz.func98, Tryz.ntmps98
    go_wp2
    go_ret3
    exact ⟨rfl, rfl⟩

theorem shape_of {op k1 k2 k3 : Int} (h : shp op = (k1, k2, k3)) (w : World) : Calls Tryz.prog 98 #[.int .i64 op] w fun e w' => e = .returned (.tuple #[.int .i64 k1, .int .i64 k2, .int .i64 k3]) ∧ w = w' := by
  refine (shape_any op w).mono ?_
  rintro e w' ⟨rfl, rfl⟩
  rw [shpV, h]
  exact ⟨rfl, rfl⟩
end Go.Proofs.YteminkohgagedaaGreat.Ver
namespace Go.Proofs.YteminkohgagedaaGreat.Ver
open Go.RowKit Go.Proofs.YteminkohgagedaaGreat.Base
set_option linter.unusedVariables false
set_option linter.unusedSimpArgs false

set_option maxHeartbeats 1000000 in
theorem one_any (op a b c n : Int) (w : World) :
    Calls Tryz.prog 74 #[.agg #[.int .i64 op, .int .i64 a, .int .i64 b, .int .i64 c], .int .i64 n] w fun e w' => e = .returned (.bool (one op a b c n)) ∧ Below w.heap.size w w' := by
  by_cases h0 : 0 ≤ op ∧ op < 23
  case neg =>
    rw [one_op h0]
    rcases (by omega : op < 0 ∨ (0 ≤ op ∧ 23 ≤ op)) with h | ⟨h, h2⟩
    all_goals
      clear h0
      go_enter Tryz.func74, Tryz.ntmps74
      go_wp2
      go_ret
      exact ⟨rfl, (Below.refl _ _).alloc (Nat.le_refl _) _⟩
  obtain ⟨h1, h2⟩ := h0
  obtain ⟨⟨k1, k2, k3⟩, hs⟩ : ∃ t, shp op = t := ⟨_, rfl⟩
  have HS := Lib.hid hs
  have hone : one op a b c n = ((num a k1 && (num b k2 && num c k3)) && decide (op = 7 → b ≤ 15 ∧ c ≤ 30) && decide (op = 5 ∨ op = 6 → tgt b c < n)) := by
    simp only [one, hs, decide_eq_true (show 0 ≤ op ∧ op < 23 from ⟨h1, h2⟩), Bool.true_and]
  rw [hone]
  clear hone hs
  have hd1 : decide (op < 0) = false := decide_eq_false (by omega)
  have hd2 : decide (op ≥ 23) = false := decide_eq_false (by omega)
  cases n1 : num a k1
  case false =>
    go_enter Tryz.func74, Tryz.ntmps74
    go_wp2_with (first | (go_at_call 98; refine (shape_of HS.out _).mono ?_; rintro e w' ⟨rfl, rfl⟩) | (go_at_call 99; refine (number_any _ _ _).mono ?_; rintro e w' ⟨rfl, rfl⟩))
    go_ret
    exact ⟨rfl, (Below.refl _ _).alloc (Nat.le_refl _) _⟩
  cases n2 : num b k2
  case false =>
    go_enter Tryz.func74, Tryz.ntmps74
    go_wp2_with (first | (go_at_call 98; refine (shape_of HS.out _).mono ?_; rintro e w' ⟨rfl, rfl⟩) | (go_at_call 99; refine (number_any _ _ _).mono ?_; rintro e w' ⟨rfl, rfl⟩))
    go_ret
    exact ⟨rfl, (Below.refl _ _).alloc (Nat.le_refl _) _⟩
  cases n3 : num c k3
  case false =>
    go_enter Tryz.func74, Tryz.ntmps74
    go_wp2_with (first | (go_at_call 98; refine (shape_of HS.out _).mono ?_; rintro e w' ⟨rfl, rfl⟩) | (go_at_call 99; refine (number_any _ _ _).mono ?_; rintro e w' ⟨rfl, rfl⟩))
    go_ret
    exact ⟨rfl, (Below.refl _ _).alloc (Nat.le_refl _) _⟩
  by_cases h7 : op = 7
  · subst h7
    have H5 : ¬ ((7 : Int) = 5 ∨ (7 : Int) = 6) := by omega
    rcases (by omega : 15 < b ∨ (b ≤ 15 ∧ 30 < c) ∨ (b ≤ 15 ∧ c ≤ 30)) with hb | ⟨hb, hc⟩ | ⟨hb, hc⟩
    · have HR : Hid (_ = false) := decide_eq_false (p := (7 : Int) = 7 → b ≤ 15 ∧ c ≤ 30) (by omega)
      go_enter Tryz.func74, Tryz.ntmps74
      go_wp2_with (first | (go_at_call 98; refine (shape_of HS.out _).mono ?_; rintro e w' ⟨rfl, rfl⟩) | (go_at_call 99; refine (number_any _ _ _).mono ?_; rintro e w' ⟨rfl, rfl⟩))
      go_ret
      exact ⟨ret_bool (by rw [HR.out]; rfl), (Below.refl _ _).alloc (Nat.le_refl _) _⟩
    · have HR : Hid (_ = false) := decide_eq_false (p := (7 : Int) = 7 → b ≤ 15 ∧ c ≤ 30) (by omega)
      go_enter Tryz.func74, Tryz.ntmps74
      go_wp2_with (first | (go_at_call 98; refine (shape_of HS.out _).mono ?_; rintro e w' ⟨rfl, rfl⟩) | (go_at_call 99; refine (number_any _ _ _).mono ?_; rintro e w' ⟨rfl, rfl⟩))
      go_ret
      exact ⟨ret_bool (by rw [HR.out]; rfl), (Below.refl _ _).alloc (Nat.le_refl _) _⟩
    · have HR : Hid (_ = true) := decide_eq_true (p := (7 : Int) = 7 → b ≤ 15 ∧ c ≤ 30) (by omega)
      go_enter Tryz.func74, Tryz.ntmps74
      go_wp2_with (first | (go_at_call 98; refine (shape_of HS.out _).mono ?_; rintro e w' ⟨rfl, rfl⟩) | (go_at_call 99; refine (number_any _ _ _).mono ?_; rintro e w' ⟨rfl, rfl⟩) | (go_at_call 100; refine (target_no _ _ _ _ H5 _).mono ?_; rintro e w1 ⟨rfl, hbl⟩))
      go_ret
      exact ⟨ret_bool (by rw [HR.out]; rfl), ((Below.refl _ _).alloc (Nat.le_refl _) _).trans (hbl.mono (by simp))⟩
  · have h7b : (op == 7) = false := beq_eq_false_iff_ne.mpr h7
    have HR : Hid (_ = true) := decide_eq_true (p := op = 7 → b ≤ 15 ∧ c ≤ 30) (fun h => absurd h h7)
    clear h7
    by_cases h56 : op = 5 ∨ op = 6
    · have H5 := Lib.hid h56
      clear h56
      by_cases ht : tgt b c < n
      · have hd : decide (tgt b c < n) = true := decide_eq_true ht
        have HT : Hid (_ = true) := decide_eq_true (p := op = 5 ∨ op = 6 → tgt b c < n) (fun _ => ht)
        clear ht
        go_enter Tryz.func74, Tryz.ntmps74
        go_wp2_with (first | (go_at_call 98; refine (shape_of HS.out _).mono ?_; rintro e w' ⟨rfl, rfl⟩) | (go_at_call 99; refine (number_any _ _ _).mono ?_; rintro e w' ⟨rfl, rfl⟩) | (go_at_call 100; refine (target_yes _ _ _ _ H5.out _).mono ?_; rintro e w1 ⟨rfl, hbl⟩))
        go_ret
        exact ⟨ret_bool (by rw [HR.out, HT.out]; rfl), ((Below.refl _ _).alloc (Nat.le_refl _) _).trans (hbl.mono (by simp))⟩
      · have hd : decide (tgt b c < n) = false := decide_eq_false ht
        have HT : Hid (_ = false) := decide_eq_false (p := op = 5 ∨ op = 6 → tgt b c < n) (fun h => ht (h H5.out))
        clear ht
        go_enter Tryz.func74, Tryz.ntmps74
        go_wp2_with (first | (go_at_call 98; refine (shape_of HS.out _).mono ?_; rintro e w' ⟨rfl, rfl⟩) | (go_at_call 99; refine (number_any _ _ _).mono ?_; rintro e w' ⟨rfl, rfl⟩) | (go_at_call 100; refine (target_yes _ _ _ _ H5.out _).mono ?_; rintro e w1 ⟨rfl, hbl⟩))
        go_ret
        exact ⟨ret_bool (by rw [HR.out, HT.out]; rfl), ((Below.refl _ _).alloc (Nat.le_refl _) _).trans (hbl.mono (by simp))⟩
    · have HT : Hid (_ = true) := decide_eq_true (p := op = 5 ∨ op = 6 → tgt b c < n) (fun h => absurd h h56)
      have H5 := Lib.hid h56
      clear h56
      go_enter Tryz.func74, Tryz.ntmps74
      go_wp2_with (first | (go_at_call 98; refine (shape_of HS.out _).mono ?_; rintro e w' ⟨rfl, rfl⟩) | (go_at_call 99; refine (number_any _ _ _).mono ?_; rintro e w' ⟨rfl, rfl⟩) | (go_at_call 100; refine (target_no _ _ _ _ H5.out _).mono ?_; rintro e w1 ⟨rfl, hbl⟩))
      go_ret
      exact ⟨ret_bool (by rw [HR.out, HT.out]; rfl), ((Below.refl _ _).alloc (Nat.le_refl _) _).trans (hbl.mono (by simp))⟩

end Go.Proofs.YteminkohgagedaaGreat.Ver
namespace Go.Proofs.YteminkohgagedaaGreat.Ver
open Go.RowKit Go.Proofs.YteminkohgagedaaGreat.Base
set_option linter.unusedVariables false
set_option linter.unusedSimpArgs false

theorem check_far (A : Option Addr) (l : List Ins) (c : Nat) (w : World) (h : l.length = 0 ∨ 200 < l.length) :
    Calls Tryz.prog 26 #[.slice A l.length c] w fun e w' => e = .returned (.tuple #[.int .i64 0, .int .i64 10]) ∧ Below w.heap.size w w' := by
  generalize hn : l.length = n at h
  rcases (by omega : n = 0 ∨ (n ≠ 0 ∧ 200 < n)) with h1 | ⟨h1, h2⟩
  · subst h1
    clear h hn
    go_enter Tryz.func26, Tryz.ntmps26
    go_wp2
    go_ret2
    exact ⟨rfl, Below.refl _ _⟩
  · have hb : ((n : Int) == 0) = false := beq_eq_false_iff_ne.mpr (by omega)
    have hc : decide ((n : Int) > 200) = true := decide_eq_true (by omega)
    clear h hn h1 h2
    go_enter Tryz.func26, Tryz.ntmps26
    go_wp2
    go_ret2
    exact ⟨rfl, Below.refl _ _⟩

set_option maxHeartbeats 1000000 in
theorem check_any (A : Option Addr) (l : List Ins) (c : Nat) (w : World) (hr : Arr w Ins.cells 4 A l) :
    Calls Tryz.prog 26 #[.slice A l.length c] w fun e w' => e = .returned (.tuple #[.int .i64 (chk l).1, .int .i64 (chk l).2]) ∧ Below w.heap.size w w' := by
  by_cases h : l.length = 0 ∨ 200 < l.length
  · rw [chk_far h]
    exact check_far A l c w h
  obtain ⟨q, hq⟩ : ∃ q, chk l = q := ⟨_, rfl⟩
  rw [hq]
  have HQ := Lib.hid hq
  clear hq
  have HN := Lib.hid h
  have hR := Lib.hid hr
  clear hr
  have hb : ((l.length : Int) == 0) = false := beq_eq_false_iff_ne.mpr (by omega)
  have hc : decide ((l.length : Int) > 200) = false := decide_eq_false (by omega)
  have hl : l.length ≤ 200 := by omega
  clear h
  go_enter Tryz.func26, Tryz.ntmps26
  go_wp2
  go_loopw [16] (fun i wr => ∃ k : Nat, k ≤ l.length ∧ i = .int .i64 k ∧ Hid (Below w.heap.size w wr) ∧ Hid (∀ j, (hj : j < k) → (hjl : j < l.length) → l[j].ok l.length = true)) (fun i _ => l.length - (intOf i).toNat)
  case atStart => exact ⟨0, Nat.zero_le _, rfl, Below.refl _ _, fun j hj => absurd hj (by omega)⟩
  case round =>
    obtain ⟨k, hk, rfl, HB, HA⟩ := hrel
    by_cases hlt : k < l.length
    · obtain ⟨ad, rfl, c0, c1, c2, c3⟩ := codes_at (hR.out.below HB.out) k hlt
      cases ho : one l[k].op l[k].a l[k].b l[k].c l.length
      · go_wp2_with (first | (go_at_call 74; refine (one_any _ _ _ _ _ _).mono ?_; rintro e w1 ⟨rfl, hbl⟩))
        go_ret2
        refine ⟨?_, HB.out.trans (((Below.refl _ _).alloc (by simpa using HB.out.size) _).trans (hbl.mono (by have := HB.out.size; simp; omega)))⟩
        have e := chk_bad HN.out k hlt ho (fun j hj => HA.out j hj (by omega))
        rw [HQ.out] at e
        subst e
        rfl
      · go_wp2_with (first | (go_at_call 74; refine (one_any _ _ _ _ _ _).mono ?_; rintro e w1 ⟨rfl, hbl⟩))
        go_roundw
        case rel =>
          refine ⟨k + 1, by omega, by go_num, HB.out.trans (((Below.refl _ _).alloc (by simpa using HB.out.size) _).trans (hbl.mono (by have := HB.out.size; simp; omega))), fun j hj hjl => ?_⟩
          rcases Nat.lt_or_ge j k with h | h
          · exact HA.out j h hjl
          · obtain rfl : j = k := by omega
            exact ho
        case measure => simp [intOf]; omega
    · go_wp2
      go_ret2
      refine ⟨?_, HB.out⟩
      have e := chk_good HN.out (fun j hj => HA.out j (by omega) hj)
      rw [HQ.out] at e
      subst e
      rfl

end Go.Proofs.YteminkohgagedaaGreat.Ver
