/- The statement on objects: the guards. -/
import Derived.Test.YteminkohgagedaaMoLaws2
namespace Go.Proofs.Yteminkohgagedaa.Mo
open Go.RowKit Go.Proofs.Yteminkohgagedaa.Base Go.Proofs.Yteminkohgagedaa.Gr Go.Proofs.Yteminkohgagedaa.Ver
set_option linter.unusedVariables false
set_option linter.unusedSimpArgs false

set_option maxRecDepth 100000 in
set_option maxHeartbeats 8000000 in
theorem objects_bad (slots words i0 k0 v : Int) (w : World) (hg : ¬ (1 ≤ slots ∧ slots ≤ 15 ∧ 1 ≤ words ∧ words ≤ 30 ∧ 0 ≤ i0 ∧ i0 < slots ∧ 0 ≤ k0 ∧ k0 < words ∧ 0 ≤ v ∧ v ≤ 65535)) : Calls Try.prog 6 #[.int .i64 slots, .int .i64 words, .int .i64 i0, .int .i64 k0, .int .i64 v] w fun e w' => e = .returned (.bool true) ∧ Below w.heap.size w w' := by
  rcases (by omega : slots < 1 ∨ (1 ≤ slots ∧ 15 < slots) ∨ (1 ≤ slots ∧ slots ≤ 15 ∧ words < 1) ∨ (1 ≤ slots ∧ slots ≤ 15 ∧ 1 ≤ words ∧ 30 < words) ∨ (1 ≤ slots ∧ slots ≤ 15 ∧ 1 ≤ words ∧ words ≤ 30 ∧ i0 < 0) ∨ (1 ≤ slots ∧ slots ≤ 15 ∧ 1 ≤ words ∧ words ≤ 30 ∧ 0 ≤ i0 ∧ slots ≤ i0) ∨
    (1 ≤ slots ∧ slots ≤ 15 ∧ 1 ≤ words ∧ words ≤ 30 ∧ 0 ≤ i0 ∧ i0 < slots ∧ k0 < 0) ∨ (1 ≤ slots ∧ slots ≤ 15 ∧ 1 ≤ words ∧ words ≤ 30 ∧ 0 ≤ i0 ∧ i0 < slots ∧ 0 ≤ k0 ∧ words ≤ k0) ∨ (1 ≤ slots ∧ slots ≤ 15 ∧ 1 ≤ words ∧ words ≤ 30 ∧ 0 ≤ i0 ∧ i0 < slots ∧ 0 ≤ k0 ∧ k0 < words ∧ v < 0) ∨
    (1 ≤ slots ∧ slots ≤ 15 ∧ 1 ≤ words ∧ words ≤ 30 ∧ 0 ≤ i0 ∧ i0 < slots ∧ 0 ≤ k0 ∧ k0 < words ∧ 0 ≤ v ∧ 65535 < v)) with h1 | ⟨h1, h2⟩ | ⟨h1, h2, h3⟩ | ⟨h1, h2, h3, h4⟩ | ⟨h1, h2, h3, h4, h5⟩ | ⟨h1, h2, h3, h4, h5, h6⟩ | ⟨h1, h2, h3, h4, h5, h6, h7⟩ | ⟨h1, h2, h3, h4, h5, h6, h7, h8⟩ | ⟨h1, h2, h3, h4, h5, h6, h7, h8, h9⟩ | ⟨h1, h2, h3, h4, h5, h6, h7, h8, h9, h10⟩
  all_goals
    clear hg
    go_enter Try.func6, Try.ntmps6
    go_wp2_with (first | (go_at_call 13; refine (alive_any _).mono ?_; rintro e w1 ⟨rfl, hb1⟩))
    go_ret
    exact ⟨rfl, hb1⟩

end Go.Proofs.Yteminkohgagedaa.Mo
