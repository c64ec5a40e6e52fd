/- slices.Equal over numbers. -/
import Derived.Test.YtbelbhdhcgpcpaaGreatDoorGrNames
namespace Go.Proofs.YtbelbhdhcgpcpaaGreatDoor.Gr
open Go.RowKit Go.Proofs.YtbelbhdhcgpcpaaGreatDoor.Base
set_option linter.unusedVariables false
set_option linter.unusedSimpArgs false

theorem equal_any (A B : Option Addr) (l m : List Int) (c d : Nat) (w : World) (hA : Ints w A l) (hB : Ints w B m) :
    Calls Tryz.prog 35 #[.slice A l.length c, .slice B m.length d] w fun e w' => e = .returned (.bool (decide (l = m))) ∧ Below w.heap.size w w' := by
  have HA := Lib.hid hA
  have HB := Lib.hid hB
  have hsz := hA.2
  clear hA hB
  obtain ⟨r, hr⟩ : ∃ r, decide (l = m) = r := ⟨_, rfl⟩
  rw [hr]
  have HR := Lib.hid hr
  clear hr
  by_cases hn : l.length = m.length
  · have hb : ((l.length : Int) != m.length) = false := bne_eq_false_iff_eq.mpr (by omega)
    have HN := Lib.hid hn
    go_enter Tryz.func35, Tryz.ntmps35
    go_wp2
    go_loopw [13] (fun i wr => ∃ k : Nat, k ≤ l.length ∧ i = .int .i64 k ∧ Hid (Below w.heap.size w wr) ∧ Hid (∀ j, j < k → (h1 : j < l.length) → (h2 : j < m.length) → l[j] = m[j])) (fun i _ => l.length - (intOf i).toNat)
    case atStart => exact ⟨0, Nat.zero_le _, rfl, Below.refl _ _, fun j hj => absurd hj (by omega)⟩
    case round =>
      obtain ⟨k, hk, rfl, HW, HE⟩ := hrel
      by_cases hlt : k < l.length
      · obtain ⟨ad, rfl, c1⟩ := (HA.out.below HW.out).at_ k hlt
        obtain ⟨bd, rfl, c2⟩ := (HB.out.below HW.out).at_ k (by omega)
        by_cases he : l[k] = m[k]
        · have hq : (l[k] != m[k]) = false := bne_eq_false_iff_eq.mpr he
          go_wp2_with (go_quiet (fail))
          all_goals
            go_roundw
            case rel =>
              refine ⟨k + 1, by omega, by go_num, below_drewN HW.out _, fun j hj h1 h2 => ?_⟩
              rcases Nat.lt_or_ge j k with h | h
              · exact HE.out j h h1 h2
              · obtain rfl : j = k := by omega
                exact he
            case measure => simp [intOf]; omega
        · have hq : (l[k] != m[k]) = true := bne_iff_ne.mpr he
          go_wp2_with (go_quiet (fail))
          all_goals
            go_ret
            refine ⟨?_, below_drewN HW.out _⟩
            have : decide (l = m) = false := decide_eq_false fun e => he (by subst e; rfl)
            have e := HR.out
            rw [this] at e
            subst e
            rfl
      · go_wp2
        go_ret
        refine ⟨?_, HW.out⟩
        have : decide (l = m) = true := decide_eq_true (List.ext_getElem HN.out fun j h1 h2 => HE.out j (by omega) h1 h2)
        have e := HR.out
        rw [this] at e
        subst e
        rfl
  · have hb : ((l.length : Int) != m.length) = true := bne_iff_ne.mpr (by omega)
    have : decide (l = m) = false := decide_eq_false fun e => hn (by rw [e])
    have e := HR.out
    rw [this] at e
    subst e
    clear this hn HR
    go_enter Tryz.func35, Tryz.ntmps35
    go_wp2
    go_ret
    exact ⟨rfl, Below.refl _ _⟩


end Go.Proofs.YtbelbhdhcgpcpaaGreatDoor.Gr
