/- Whether all numbers name nodes. -/
import Derived.Test.YtbelbhdhcgpcpaaGreatDoorGrPlain
namespace Go.Proofs.YtbelbhdhcgpcpaaGreatDoor.Gr
open Go.RowKit Go.Proofs.YtbelbhdhcgpcpaaGreatDoor.Base
set_option linter.unusedVariables false
set_option linter.unusedSimpArgs false

theorem pick_any (a n : Int) (p : Addr) (w : World) (hc : w.cell? p = some (.int .i64 n)) :
    Calls Tryz.prog 75 #[.int .i64 a, .pointer (some p)] w fun e w' => e = .returned (.bool !(decide (0 ≤ a) && decide (a ≤ n))) ∧ Below w.heap.size w w' := by
  rcases (by omega : a < 0 ∨ (0 ≤ a ∧ n < a) ∨ (0 ≤ a ∧ a ≤ n)) with h | ⟨h, h2⟩ | ⟨h, h2⟩
  · have e1 : decide (0 ≤ a) = false := decide_eq_false (by omega)
    rw [e1]
    go_enter Tryz.func75, Tryz.ntmps75
    go_wp2
    go_ret
    exact ⟨rfl, Below.refl _ _⟩
  · have e1 : decide (0 ≤ a) = true := decide_eq_true (by omega)
    have e2 : decide (a ≤ n) = false := decide_eq_false (by omega)
    rw [e1, e2]
    go_enter Tryz.func75, Tryz.ntmps75
    go_wp2
    go_ret
    exact ⟨rfl, Below.refl _ _⟩
  · have e1 : decide (0 ≤ a) = true := decide_eq_true (by omega)
    have e2 : decide (a ≤ n) = true := decide_eq_true (by omega)
    have e3 : decide (a < 0) = false := decide_eq_false (by omega)
    have e4 : decide (n < a) = false := decide_eq_false (by omega)
    rw [e1, e2]
    go_enter Tryz.func75, Tryz.ntmps75
    go_wp2
    go_ret
    exact ⟨rfl, Below.refl _ _⟩

/-- A number of a list that is not named: is there one? -/
theorem find_any (A : Option Addr) (l : List Int) (c : Nat) (n : Int) (p : Addr) (w : World) (hA : Ints w A l) (hc : w.cell? p = some (.int .i64 n)) :
    Calls Tryz.prog 92 #[.slice A l.length c, .func (.func 75) #[] #[.pointer (some p)]] w fun e w' => ∃ i : Int, e = .returned (.int .i64 i) ∧ decide (i ≥ 0) = !(named l n) ∧ Below w.heap.size w w' := by
  have HA := Lib.hid hA
  have HC := Lib.hid hc
  have hsz := hA.2
  clear hA hc
  go_enter Tryz.func92, Tryz.ntmps92
  go_wp2
  go_loopw [8] (fun i wr => ∃ k : Nat, k ≤ l.length ∧ i = .int .i64 k ∧ Hid (Below w.heap.size w wr) ∧ Hid (∀ j, j < k → (h1 : j < l.length) → (decide (0 ≤ l[j]) && decide (l[j] ≤ n)) = true)) (fun i _ => l.length - (intOf i).toNat)
  case atStart => exact ⟨0, Nat.zero_le _, rfl, Below.refl _ _, fun j hj => absurd hj (by omega)⟩
  case round =>
    obtain ⟨k, hk, rfl, HW, HE⟩ := hrel
    by_cases hlt : k < l.length
    · obtain ⟨ad, rfl, c1⟩ := (HA.out.below HW.out).at_ k hlt
      cases hp : (decide (0 ≤ l[k]) && decide (l[k] ≤ n))
      · go_wp2_with (first | (go_at_call 75; refine (pick_any _ n p _ ((HW.out.cell (cell_lt HC.out)).trans HC.out)).mono ?_; rw [hp]; rintro e w1 ⟨rfl, hbl⟩))
        go_ret
        refine ⟨k, rfl, ?_, below_then HW.out hbl⟩
        rw [named, all_bad k hlt hp]
        simp
      · go_wp2_with (first | (go_at_call 75; refine (pick_any _ n p _ ((HW.out.cell (cell_lt HC.out)).trans HC.out)).mono ?_; rw [hp]; rintro e w1 ⟨rfl, hbl⟩))
        go_roundw
        case rel =>
          refine ⟨k + 1, by omega, by go_num, below_then HW.out hbl, fun j hj h1 => ?_⟩
          rcases Nat.lt_or_ge j k with h | h
          · exact HE.out j h h1
          · obtain rfl : j = k := by omega
            exact hp
        case measure => simp [intOf]; omega
    · go_wp2
      go_ret
      refine ⟨-1, rfl, ?_, HW.out⟩
      rw [named, all_upto fun j hj => HE.out j (by omega) hj]
      rfl

theorem contains_any (A : Option Addr) (l : List Int) (c : Nat) (n : Int) (p : Addr) (w : World) (hA : Ints w A l) (hc : w.cell? p = some (.int .i64 n)) :
    Calls Tryz.prog 74 #[.slice A l.length c, .func (.func 75) #[] #[.pointer (some p)]] w fun e w' => e = .returned (.bool (!(named l n))) ∧ Below w.heap.size w w' := by
  have HA := Lib.hid hA
  have HC := Lib.hid hc
  clear hA hc
  go_enter Tryz.func74, Tryz.ntmps74
  go_wp2_with fail
  refine (find_any A l c n p w HA.out HC.out).mono ?_
  rintro e w1 ⟨i, rfl, hi, hb⟩
  go_wp2
  go_ret
  exact ⟨rfl, hb⟩

theorem names_any (A : Option Addr) (l : List Int) (c : Nat) (n : Int) (w : World) (hA : Ints w A l) :
    Calls Tryz.prog 31 #[.slice A l.length c, .int .i64 n] w fun e w' => e = .returned (.bool (named l n)) ∧ Below w.heap.size w w' := by
  have HA := Lib.hid hA
  clear hA
  go_enter Tryz.func31, Tryz.ntmps31
  go_wp2_with fail
  refine (contains_any A l c n ⟨w.heap.size, 0, none⟩ _ (HA.out.below ((Below.refl _ _).alloc (Nat.le_refl _) _)) (by simp)).mono ?_
  rintro e w1 ⟨rfl, hb⟩
  go_wp2
  go_ret
  refine ⟨ret_bool (by simp), ?_⟩
  exact ((Below.refl _ _).alloc (Nat.le_refl _) _).trans (hb.mono (by simp))


end Go.Proofs.YtbelbhdhcgpcpaaGreatDoor.Gr
