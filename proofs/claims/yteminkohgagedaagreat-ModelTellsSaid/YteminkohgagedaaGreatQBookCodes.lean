/- The reference's Check of programs. -/
import Derived.Test.YteminkohgagedaaGreatQVerCheck
import Derived.Test.YteminkohgagedaaGreatQBookIns
import Derived.Test.YteminkohgagedaaGreatQRefOne
namespace Go.Proofs.YteminkohgagedaaGreat.Ver
open Go.RowKit Go.Proofs.YteminkohgagedaaGreat.Base
set_option linter.unusedVariables false
set_option linter.unusedSimpArgs false

theorem rcheck_far (A : Option Addr) (l : List Ins) (c : Nat) (w : World) (h : l.length = 0 ∨ 200 < l.length) :
    Calls Tryz.prog 35 #[.slice A l.length c] w fun e w' => e = .returned (.tuple #[.int .i64 0, .int .i64 10]) ∧ Below w.heap.size w w' := by
  generalize hn : l.length = n at h
  rcases (by omega : n = 0 ∨ (n ≠ 0 ∧ 200 < n)) with h1 | ⟨h1, h2⟩
  · subst h1
    clear h hn
    go_enter Tryz.func35, Tryz.ntmps35
    go_wp2
    go_ret2
    exact ⟨rfl, Below.refl _ _⟩
  · have hb : ((n : Int) == 0) = false := beq_eq_false_iff_ne.mpr (by omega)
    have hc : decide ((n : Int) > 200) = true := decide_eq_true (by omega)
    clear h hn h1 h2
    go_enter Tryz.func35, Tryz.ntmps35
    go_wp2
    go_ret2
    exact ⟨rfl, Below.refl _ _⟩

set_option maxHeartbeats 1000000 in
theorem rcheck_any (A : Option Addr) (l : List Ins) (c : Nat) (w : World) (hr : Arr w Ins.cells 4 A l) :
    Calls Tryz.prog 35 #[.slice A l.length c] w fun e w' => e = .returned (.tuple #[.int .i64 (chk l).1, .int .i64 (chk l).2]) ∧ Below w.heap.size w w' := by
  by_cases h : l.length = 0 ∨ 200 < l.length
  · rw [chk_far h]
    exact rcheck_far A l c w h
  obtain ⟨q, hq⟩ : ∃ q, chk l = q := ⟨_, rfl⟩
  rw [hq]
  have HQ := Lib.hid hq
  clear hq
  have HN := Lib.hid h
  have hR := Lib.hid hr
  clear hr
  have hb : ((l.length : Int) == 0) = false := beq_eq_false_iff_ne.mpr (by omega)
  have hc : decide ((l.length : Int) > 200) = false := decide_eq_false (by omega)
  have hl : l.length ≤ 200 := by omega
  clear h
  go_enter Tryz.func35, Tryz.ntmps35
  go_wp2
  go_loopw [4] (fun i wr => ∃ k : Nat, k ≤ l.length ∧ i = .int .i64 k ∧ Hid (Below w.heap.size w wr) ∧ Hid (∀ j, (hj : j < k) → (hjl : j < l.length) → l[j].ok l.length = true)) (fun i _ => l.length - (intOf i).toNat)
  case atStart => exact ⟨0, Nat.zero_le _, rfl, Below.refl _ _, fun j hj => absurd hj (by omega)⟩
  case round =>
    obtain ⟨k, hk, rfl, HB, HA⟩ := hrel
    by_cases hlt : k < l.length
    · obtain ⟨ad, rfl, c0, c1, c2, c3⟩ := codes_at (hR.out.below HB.out) k hlt
      cases ho : one l[k].op l[k].a l[k].b l[k].c l.length
      · go_wp2_with (first | (go_at_call 81; refine (rone_any _ _ _ _ _ _).mono ?_; rintro e w1 ⟨rfl, hbl⟩))
        go_ret2
        refine ⟨?_, HB.out.trans (hbl.mono HB.out.size)⟩
        have e := chk_bad HN.out k hlt ho (fun j hj => HA.out j hj (by omega))
        rw [HQ.out] at e
        subst e
        rfl
      · go_wp2_with (first | (go_at_call 81; refine (rone_any _ _ _ _ _ _).mono ?_; rintro e w1 ⟨rfl, hbl⟩))
        go_roundw
        case rel =>
          refine ⟨k + 1, by omega, by go_num, HB.out.trans (hbl.mono HB.out.size), fun j hj hjl => ?_⟩
          rcases Nat.lt_or_ge j k with h | h
          · exact HA.out j h hjl
          · obtain rfl : j = k := by omega
            exact ho
        case measure => simp [intOf]; omega
    · go_wp2
      go_ret2
      refine ⟨?_, HB.out⟩
      have e := chk_good HN.out (fun j hj => HA.out j (by omega) hj)
      rw [HQ.out] at e
      subst e
      rfl

end Go.Proofs.YteminkohgagedaaGreat.Ver
