/- The statement on objects: both ways. -/
import Derived.Test.YteminkohgagedaaMoObjW
import Derived.Test.YteminkohgagedaaMoObjG
namespace Go.Proofs.Yteminkohgagedaa.Mo
open Go.RowKit Go.Proofs.Yteminkohgagedaa.Base Go.Proofs.Yteminkohgagedaa.Gr Go.Proofs.Yteminkohgagedaa.Ver

theorem objects_walk (slots words i0 k0 v : Int) (w : World) : Calls Try.prog 6 #[.int .i64 slots, .int .i64 words, .int .i64 i0, .int .i64 k0, .int .i64 v] w fun e w' => e = .returned (.bool true) ∧ Below w.heap.size w w' := by
  by_cases hg : (1 ≤ slots ∧ slots ≤ 15 ∧ 1 ≤ words ∧ words ≤ 30 ∧ 0 ≤ i0 ∧ i0 < slots ∧ 0 ≤ k0 ∧ k0 < words ∧ 0 ≤ v ∧ v ≤ 65535)
  · exact objects_good slots words i0 k0 v w hg
  · exact objects_bad slots words i0 k0 v w hg

end Go.Proofs.Yteminkohgagedaa.Mo
