/- The statement on errors: the guards. -/
import Derived.Test.YteminkohgagedaaMoLaws2
namespace Go.Proofs.Yteminkohgagedaa.Mo
open Go.RowKit Go.Proofs.Yteminkohgagedaa.Base Go.Proofs.Yteminkohgagedaa.Gr Go.Proofs.Yteminkohgagedaa.Ver
set_option linter.unusedVariables false
set_option linter.unusedSimpArgs false

set_option maxRecDepth 100000 in
set_option maxHeartbeats 8000000 in
theorem errors_bad (slots words op c : Int) (w : World) (hg : ¬ (0 ≤ slots ∧ slots ≤ 15 ∧ 0 ≤ words ∧ words ≤ 30 ∧ 0 ≤ c ∧ c ≤ 255)) : Calls Try.prog 7 #[.int .i64 slots, .int .i64 words, .int .i64 op, .int .i64 c] w fun e w' => e = .returned (.bool true) ∧ Below w.heap.size w w' := by
  have HAL := Lib.hid (fun w => alive_any w)
  rcases (by omega : slots < 0 ∨ (0 ≤ slots ∧ 15 < slots) ∨ (0 ≤ slots ∧ slots ≤ 15 ∧ words < 0) ∨ (0 ≤ slots ∧ slots ≤ 15 ∧ 0 ≤ words ∧ 30 < words) ∨ (0 ≤ slots ∧ slots ≤ 15 ∧ 0 ≤ words ∧ words ≤ 30 ∧ c < 0) ∨ (0 ≤ slots ∧ slots ≤ 15 ∧ 0 ≤ words ∧ words ≤ 30 ∧ 0 ≤ c ∧ 255 < c)) with h1 | ⟨h1, h2⟩ | ⟨h1, h2, h3⟩ | ⟨h1, h2, h3, h4⟩ | ⟨h1, h2, h3, h4, h5⟩ | ⟨h1, h2, h3, h4, h5, h6⟩
  all_goals
    clear hg
    go_enter Try.func7, Try.ntmps7
    go_wp2_with (first | (go_at_call 13; refine (alive_any _).mono ?_; rintro e w1 ⟨rfl, hb1⟩))
    go_ret
    exact ⟨rfl, hb1⟩

end Go.Proofs.Yteminkohgagedaa.Mo
