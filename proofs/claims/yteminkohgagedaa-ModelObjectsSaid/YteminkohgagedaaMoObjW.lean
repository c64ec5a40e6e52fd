/- The statement on objects: the walk. -/
import Derived.Test.YteminkohgagedaaMoLaws3
namespace Go.Proofs.Yteminkohgagedaa.Mo
open Go.RowKit Go.Proofs.Yteminkohgagedaa.Base Go.Proofs.Yteminkohgagedaa.Gr Go.Proofs.Yteminkohgagedaa.Ver
set_option linter.unusedVariables false
set_option linter.unusedSimpArgs false

set_option maxRecDepth 100000 in
set_option maxHeartbeats 8000000 in
theorem objects_good (slots words i0 k0 v : Int) (w : World) (hg : (1 ≤ slots ∧ slots ≤ 15 ∧ 1 ≤ words ∧ words ≤ 30 ∧ 0 ≤ i0 ∧ i0 < slots ∧ 0 ≤ k0 ∧ k0 < words ∧ 0 ≤ v ∧ v ≤ 65535)) : Calls Try.prog 6 #[.int .i64 slots, .int .i64 words, .int .i64 i0, .int .i64 k0, .int .i64 v] w fun e w' => e = .returned (.bool true) ∧ Below w.heap.size w w' := by
  obtain ⟨g1, g2, g3, g4, g5, g6, g7, g8, g9, g10⟩ := hg
  obtain ⟨s, rfl⟩ : ∃ s : Nat, slots = (s : Int) := ⟨slots.toNat, by omega⟩
  obtain ⟨m, rfl⟩ : ∃ m : Nat, words = (m : Int) := ⟨words.toNat, by omega⟩
  obtain ⟨i, rfl⟩ : ∃ i : Nat, i0 = (i : Int) := ⟨i0.toNat, by omega⟩
  obtain ⟨k, rfl⟩ : ∃ k : Nat, k0 = (k : Int) := ⟨k0.toNat, by omega⟩
  have hr := obj_runs s m i k v (by omega) (by omega) (by omega) (by omega) g9 g10
  go_enter Try.func6, Try.ntmps6
  go_wp2_with fail
  refine (alive_any w).mono ?_
  rintro e w1 ⟨rfl, hb1⟩
  have HB1 := Lib.hid hb1
  clear hb1
  go_wp2_with fail
  refine (num_any 0 v w1).mono ?_
  rintro e w2 ⟨rfl, hb2⟩
  have HB2 := Lib.hid (below_then HB1.out hb2)
  clear hb2
  go_wp2_with fail
  have K := run_any2 (some ⟨w2.heap.size, 0, none⟩) (objL s m i k v) 20 _ (arr_blk (l := objL s m i k v) (Blk.new w2 39 #[.int .i64 7, .int .i64 0, .int .i64 (s : Int), .int .i64 (m : Int), .int .i64 7, .int .i64 1, .int .i64 0, .int .i64 0, .int .i64 1, .int .i64 0, .int .i64 (v % 256), .int .i64 (v / 256 % 256), .int .i64 11, .int .i64 0, .int .i64 0, .int .i64 (k : Int), .int .i64 9, .int .i64 0, .int .i64 1, .int .i64 (i : Int), .int .i64 8, .int .i64 2, .int .i64 0, .int .i64 (i : Int), .int .i64 18, .int .i64 1, .int .i64 1, .int .i64 2, .int .i64 16, .int .i64 1, .int .i64 0, .int .i64 0, .int .i64 18, .int .i64 1, .int .i64 0, .int .i64 2, .int .i64 16, .int .i64 1, .int .i64 0, .int .i64 0, .int .i64 10, .int .i64 1, .int .i64 0, .int .i64 (k : Int), .int .i64 16, .int .i64 1, .int .i64 0, .int .i64 0, .int .i64 21, .int .i64 1, .int .i64 0, .int .i64 0, .int .i64 16, .int .i64 1, .int .i64 0, .int .i64 0, .int .i64 22, .int .i64 1, .int .i64 0, .int .i64 0, .int .i64 16, .int .i64 1, .int .i64 0, .int .i64 0, .int .i64 17, .int .i64 1, .int .i64 3, .int .i64 0, .int .i64 16, .int .i64 1, .int .i64 0, .int .i64 0, .int .i64 17, .int .i64 1, .int .i64 2, .int .i64 0, .int .i64 16, .int .i64 1, .int .i64 0, .int .i64 0]) rfl)
  rw [hr.1, hr.2] at K
  refine K.mono ?_
  rintro e w9 ⟨AO, cO, rfl, hI, hb9⟩
  have HI := Lib.hid hI
  have HB9 := Lib.hid (below_then HB2.out (below_then (below_1 w2 _) hb9))
  clear hI hb9 K hr
  go_wp2_with fail
  refine (same_any AO (some ⟨w9.heap.size, 0, none⟩) _ [1, 0, v, (s : Int), (m : Int), 1, 0] cO 7 _ (HI.out.below (below_1 _ _)) (ints_lit (Blk.new w9 3 #[.int .i64 1, .int .i64 0, .int .i64 v, .int .i64 ((s : Int)), .int .i64 ((m : Int)), .int .i64 1, .int .i64 0]) rfl (by simp)) (by simp)).mono ?_
  rw [decide_eq_true rfl]
  rintro e w10 ⟨rfl, hb10⟩
  have HB10 := Lib.hid (below_then HB9.out (below_then (below_1 w9 _) hb10))
  clear hb10
  go_wp2_with fail
  go_ret
  exact ⟨rfl, HB10.out⟩

end Go.Proofs.Yteminkohgagedaa.Mo
