/- The statement on errors: both ways. -/
import Derived.Test.YteminkohgagedaaMoErrW
import Derived.Test.YteminkohgagedaaMoErrG
namespace Go.Proofs.Yteminkohgagedaa.Mo
open Go.RowKit Go.Proofs.Yteminkohgagedaa.Base Go.Proofs.Yteminkohgagedaa.Gr Go.Proofs.Yteminkohgagedaa.Ver

theorem errors_walk (slots words op c : Int) (w : World) : Calls Try.prog 7 #[.int .i64 slots, .int .i64 words, .int .i64 op, .int .i64 c] w fun e w' => e = .returned (.bool true) ∧ Below w.heap.size w w' := by
  by_cases hg : (0 ≤ slots ∧ slots ≤ 15 ∧ 0 ≤ words ∧ words ≤ 30 ∧ 0 ≤ c ∧ c ≤ 255)
  · exact errors_good slots words op c w hg
  · exact errors_bad slots words op c w hg

end Go.Proofs.Yteminkohgagedaa.Mo
