/- Of every instruction verify.One answers as the plain function 'one'; of every program verify.Check answers as 'chk'. -/
import Derived.Test.YteminkohgagedaaVerWalks
namespace Go.Proofs.Yteminkohgagedaa.Ver
open Go.RowKit Go.Proofs.Yteminkohgagedaa.Base
set_option linter.unusedVariables false
set_option linter.unusedSimpArgs false

set_option maxHeartbeats 1000000 in
theorem one_any (op a b c n : Int) (w : World) :
    Calls Try.prog 40 #[.agg #[.int .i64 op, .int .i64 a, .int .i64 b, .int .i64 c], .int .i64 n] w fun e w' => e = .returned (.bool (one op a b c n)) ∧ Below w.heap.size w w' := by
  by_cases h0 : 0 ≤ op ∧ op < 23
  case neg =>
    rw [one_op h0]
    rcases (by omega : op < 0 ∨ (0 ≤ op ∧ 23 ≤ op)) with h | ⟨h, h2⟩
    all_goals
      clear h0
      go_enter Try.func40, Try.ntmps40
      go_wp2
      go_ret
      exact ⟨rfl, (Below.refl _ _).alloc (Nat.le_refl _) _⟩
  obtain ⟨h1, h2⟩ := h0
  obtain ⟨⟨k1, k2, k3⟩, hs⟩ : ∃ t, shp op = t := ⟨_, rfl⟩
  have HS := Lib.hid hs
  have hone : one op a b c n = ((num a k1 && (num b k2 && num c k3)) && decide (op = 7 → b ≤ 15 ∧ c ≤ 30) && decide (op = 5 ∨ op = 6 → tgt b c < n)) := by
    simp only [one, hs, decide_eq_true (show 0 ≤ op ∧ op < 23 from ⟨h1, h2⟩), Bool.true_and]
  rw [hone]
  clear hone hs
  have hd1 : decide (op < 0) = false := decide_eq_false (by omega)
  have hd2 : decide (op ≥ 23) = false := decide_eq_false (by omega)
  cases n1 : num a k1
  case false =>
    go_enter Try.func40, Try.ntmps40
    go_wp2_with (first | (go_at_call 50; refine (shape_of HS.out _).mono ?_; rintro e w' ⟨rfl, rfl⟩) | (go_at_call 51; refine (number_any _ _ _).mono ?_; rintro e w' ⟨rfl, rfl⟩))
    go_ret
    exact ⟨rfl, (Below.refl _ _).alloc (Nat.le_refl _) _⟩
  cases n2 : num b k2
  case false =>
    go_enter Try.func40, Try.ntmps40
    go_wp2_with (first | (go_at_call 50; refine (shape_of HS.out _).mono ?_; rintro e w' ⟨rfl, rfl⟩) | (go_at_call 51; refine (number_any _ _ _).mono ?_; rintro e w' ⟨rfl, rfl⟩))
    go_ret
    exact ⟨rfl, (Below.refl _ _).alloc (Nat.le_refl _) _⟩
  cases n3 : num c k3
  case false =>
    go_enter Try.func40, Try.ntmps40
    go_wp2_with (first | (go_at_call 50; refine (shape_of HS.out _).mono ?_; rintro e w' ⟨rfl, rfl⟩) | (go_at_call 51; refine (number_any _ _ _).mono ?_; rintro e w' ⟨rfl, rfl⟩))
    go_ret
    exact ⟨rfl, (Below.refl _ _).alloc (Nat.le_refl _) _⟩
  by_cases h7 : op = 7
  · subst h7
    have H5 : ¬ ((7 : Int) = 5 ∨ (7 : Int) = 6) := by omega
    rcases (by omega : 15 < b ∨ (b ≤ 15 ∧ 30 < c) ∨ (b ≤ 15 ∧ c ≤ 30)) with hb | ⟨hb, hc⟩ | ⟨hb, hc⟩
    · have HR : Hid (_ = false) := decide_eq_false (p := (7 : Int) = 7 → b ≤ 15 ∧ c ≤ 30) (by omega)
      go_enter Try.func40, Try.ntmps40
      go_wp2_with (first | (go_at_call 50; refine (shape_of HS.out _).mono ?_; rintro e w' ⟨rfl, rfl⟩) | (go_at_call 51; refine (number_any _ _ _).mono ?_; rintro e w' ⟨rfl, rfl⟩))
      go_ret
      exact ⟨ret_bool (by rw [HR.out]; rfl), (Below.refl _ _).alloc (Nat.le_refl _) _⟩
    · have HR : Hid (_ = false) := decide_eq_false (p := (7 : Int) = 7 → b ≤ 15 ∧ c ≤ 30) (by omega)
      go_enter Try.func40, Try.ntmps40
      go_wp2_with (first | (go_at_call 50; refine (shape_of HS.out _).mono ?_; rintro e w' ⟨rfl, rfl⟩) | (go_at_call 51; refine (number_any _ _ _).mono ?_; rintro e w' ⟨rfl, rfl⟩))
      go_ret
      exact ⟨ret_bool (by rw [HR.out]; rfl), (Below.refl _ _).alloc (Nat.le_refl _) _⟩
    · have HR : Hid (_ = true) := decide_eq_true (p := (7 : Int) = 7 → b ≤ 15 ∧ c ≤ 30) (by omega)
      go_enter Try.func40, Try.ntmps40
      go_wp2_with (first | (go_at_call 50; refine (shape_of HS.out _).mono ?_; rintro e w' ⟨rfl, rfl⟩) | (go_at_call 51; refine (number_any _ _ _).mono ?_; rintro e w' ⟨rfl, rfl⟩) | (go_at_call 52; refine (target_no _ _ _ _ H5 _).mono ?_; rintro e w1 ⟨rfl, hbl⟩))
      go_ret
      exact ⟨ret_bool (by rw [HR.out]; rfl), ((Below.refl _ _).alloc (Nat.le_refl _) _).trans (hbl.mono (by simp))⟩
  · have h7b : (op == 7) = false := beq_eq_false_iff_ne.mpr h7
    have HR : Hid (_ = true) := decide_eq_true (p := op = 7 → b ≤ 15 ∧ c ≤ 30) (fun h => absurd h h7)
    clear h7
    by_cases h56 : op = 5 ∨ op = 6
    · have H5 := Lib.hid h56
      clear h56
      by_cases ht : tgt b c < n
      · have hd : decide (tgt b c < n) = true := decide_eq_true ht
        have HT : Hid (_ = true) := decide_eq_true (p := op = 5 ∨ op = 6 → tgt b c < n) (fun _ => ht)
        clear ht
        go_enter Try.func40, Try.ntmps40
        go_wp2_with (first | (go_at_call 50; refine (shape_of HS.out _).mono ?_; rintro e w' ⟨rfl, rfl⟩) | (go_at_call 51; refine (number_any _ _ _).mono ?_; rintro e w' ⟨rfl, rfl⟩) | (go_at_call 52; refine (target_yes _ _ _ _ H5.out _).mono ?_; rintro e w1 ⟨rfl, hbl⟩))
        go_ret
        exact ⟨ret_bool (by rw [HR.out, HT.out]; rfl), ((Below.refl _ _).alloc (Nat.le_refl _) _).trans (hbl.mono (by simp))⟩
      · have hd : decide (tgt b c < n) = false := decide_eq_false ht
        have HT : Hid (_ = false) := decide_eq_false (p := op = 5 ∨ op = 6 → tgt b c < n) (fun h => ht (h H5.out))
        clear ht
        go_enter Try.func40, Try.ntmps40
        go_wp2_with (first | (go_at_call 50; refine (shape_of HS.out _).mono ?_; rintro e w' ⟨rfl, rfl⟩) | (go_at_call 51; refine (number_any _ _ _).mono ?_; rintro e w' ⟨rfl, rfl⟩) | (go_at_call 52; refine (target_yes _ _ _ _ H5.out _).mono ?_; rintro e w1 ⟨rfl, hbl⟩))
        go_ret
        exact ⟨ret_bool (by rw [HR.out, HT.out]; rfl), ((Below.refl _ _).alloc (Nat.le_refl _) _).trans (hbl.mono (by simp))⟩
    · have HT : Hid (_ = true) := decide_eq_true (p := op = 5 ∨ op = 6 → tgt b c < n) (fun h => absurd h h56)
      have H5 := Lib.hid h56
      clear h56
      go_enter Try.func40, Try.ntmps40
      go_wp2_with (first | (go_at_call 50; refine (shape_of HS.out _).mono ?_; rintro e w' ⟨rfl, rfl⟩) | (go_at_call 51; refine (number_any _ _ _).mono ?_; rintro e w' ⟨rfl, rfl⟩) | (go_at_call 52; refine (target_no _ _ _ _ H5.out _).mono ?_; rintro e w1 ⟨rfl, hbl⟩))
      go_ret
      exact ⟨ret_bool (by rw [HR.out, HT.out]; rfl), ((Below.refl _ _).alloc (Nat.le_refl _) _).trans (hbl.mono (by simp))⟩

end Go.Proofs.Yteminkohgagedaa.Ver
