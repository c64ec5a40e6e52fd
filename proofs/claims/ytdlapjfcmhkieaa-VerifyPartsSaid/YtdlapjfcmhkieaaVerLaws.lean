/- The statements' own functions of chapter 20: alive, VerifyTells, VerifyParts. -/
import Derived.Test.YtdlapjfcmhkieaaBookCodes
namespace Go.Proofs.Ytdlapjfcmhkieaa.Ver
open Go.RowKit Go.Proofs.Ytdlapjfcmhkieaa.Base
set_option linter.unusedVariables false
set_option linter.unusedSimpArgs false

theorem arr_new (w : World) (l : List Ins) (cs : Array Value) (h : cs.toList = enc Ins.cells l) : Arr (w.alloc (.cells cs 39)) Ins.cells 4 (some ⟨w.heap.size, 0, none⟩) l := by
  have hs : cs.size = l.length * 4 := by rw [← enc_len Ins.cells_len l, ← h]; simp
  have := Reads.new w 39 (size := 4) (n := l.length) hs
  rw [h] at this
  exact this

set_option maxHeartbeats 1000000 in
theorem alive_any (w : World) : Calls Try.prog 18 #[] w fun e w' => e = .returned (.bool true) ∧ Below w.heap.size w w' := by
  have k1 := check_any (some ⟨w.heap.size, 0, none⟩) [⟨5, 0, 5, 0⟩] 1 (w.alloc (.cells #[.int .i64 5, .int .i64 0, .int .i64 5, .int .i64 0] 39)) (arr_new w [⟨5, 0, 5, 0⟩] _ rfl)
  have c1 : chk [⟨5, 0, 5, 0⟩] = (0, 10) := by decide +kernel
  rw [c1] at k1
  have K1 := Lib.hid k1
  have c2 : chk [⟨7, 3, 1, 1⟩, ⟨13, 3, 7, 0⟩] = (2, 0) := by decide +kernel
  have c3 : one 0 0 0 0 1 = true := by decide +kernel
  have C2 := Lib.hid c2
  have C3 := Lib.hid c3
  clear k1 c1 c2 c3
  go_enter Try.func18, Try.ntmps18
  go_wp2_with fail
  refine (K1.out).mono ?_
  rintro e w1 ⟨rfl, hb1⟩
  go_wp2_with fail
  have k2 := check_any (some ⟨w1.heap.size, 0, none⟩) [⟨7, 3, 1, 1⟩, ⟨13, 3, 7, 0⟩] 2 (w1.alloc (.cells #[.int .i64 7, .int .i64 3, .int .i64 1, .int .i64 1, .int .i64 13, .int .i64 3, .int .i64 7, .int .i64 0] 39)) (arr_new w1 [⟨7, 3, 1, 1⟩, ⟨13, 3, 7, 0⟩] _ rfl)
  rw [C2.out] at k2
  refine k2.mono ?_
  rintro e w2 ⟨rfl, hb2⟩
  go_wp2_with fail
  have k3 := one_any 0 0 0 0 1 w2
  rw [C3.out] at k3
  refine k3.mono ?_
  rintro e w3 ⟨rfl, hb3⟩
  go_wp2_with fail
  go_ret
  refine ⟨rfl, ?_⟩
  have h1 : Below w.heap.size w w1 := ((Below.refl _ _).alloc (Nat.le_refl _) _).trans (hb1.mono (by simp))
  have h2 : Below w1.heap.size w1 w2 := ((Below.refl _ _).alloc (Nat.le_refl _) _).trans (hb2.mono (by simp))
  exact below_then (below_then h1 h2) hb3

end Go.Proofs.Ytdlapjfcmhkieaa.Ver
