/- The statement on fuel: both ways. -/
import Derived.Test.YteminkohgagedaaMoFuelW
namespace Go.Proofs.Yteminkohgagedaa.Mo
open Go.RowKit Go.Proofs.Yteminkohgagedaa.Base Go.Proofs.Yteminkohgagedaa.Gr Go.Proofs.Yteminkohgagedaa.Ver
set_option linter.unusedVariables false
set_option linter.unusedSimpArgs false

set_option maxRecDepth 100000 in
set_option maxHeartbeats 8000000 in
theorem fuel_walk (A : Option Addr) (l : List Ins) (cap : Nat) (a b : Int) (w : World) (hL : Arr w Ins.cells 4 A l) (hc : l.length ≤ cap) :
    Calls Try.prog 9 #[.slice A l.length cap, .int .i64 a, .int .i64 b] w fun e w' => e = .returned (.bool true) ∧ Below w.heap.size w w' := by
  by_cases hg : l.length ≤ 100 ∧ 0 ≤ a ∧ a ≤ b ∧ b ≤ 300
  · obtain ⟨h1, h2, h3, h4⟩ := hg
    obtain ⟨n, rfl⟩ : ∃ n : Nat, a = (n : Int) := ⟨a.toNat, by omega⟩
    obtain ⟨m, rfl⟩ : ∃ m : Nat, b = (m : Int) := ⟨b.toNat, by omega⟩
    exact fuel_good A l cap n m w hL h1 (by omega) (by omega)
  · generalize l.length = k at hg
    rcases (by omega : 100 < (k : Int) ∨ ((k : Int) ≤ 100 ∧ a < 0) ∨ ((k : Int) ≤ 100 ∧ 0 ≤ a ∧ b < a) ∨ ((k : Int) ≤ 100 ∧ 0 ≤ a ∧ a ≤ b ∧ 300 < b)) with h1 | ⟨h1, h2⟩ | ⟨h1, h2, h3⟩ | ⟨h1, h2, h3, h4⟩
    all_goals
      clear hg hL hc
      go_enter Try.func9, Try.ntmps9
      go_wp2_with (first | (go_at_call 13; refine (alive_any _).mono ?_; rintro e w1 ⟨rfl, hb1⟩))
      go_ret
      exact ⟨rfl, hb1⟩

end Go.Proofs.Yteminkohgagedaa.Mo
